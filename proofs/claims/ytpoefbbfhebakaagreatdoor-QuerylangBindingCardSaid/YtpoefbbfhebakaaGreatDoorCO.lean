/- Several texts in one: The library's text of WriteByte as it lies in this program and what follows. No condition. -/
import Derived.Test.YtpoefbbfhebakaaGreatDoorC0
import Derived.Shelf.Strings.Builder1
import Derived.KernelRfl
import Derived.Test.YtpoefbbfhebakaaGreatDoorC9
import Derived.Test.YtpoefbbfhebakaaGreatDoorCv4
import Derived.Test.YtpoefbbfhebakaaGreatDoorCN
set_option linter.unusedVariables false
set_option linter.unusedSimpArgs false

section
namespace Go.Proofs
open Go.Shelf
def layWb_ren : Go.Shelf.Ren := ⟨fun | 167 => 171 | 240 => 198 | 276 => 222 | n => n,fun | 0 => 0 | 3 => 3 | 4 => 4 | 5 => 5 | 9 => 9 | 20 => 20 | 37 => 120 | 70 => 158 | 72 => 160 | 75 => 162 | 80 => 107 | 164 => 236 | n => n,fun | n => n⟩
theorem layWb : Go.Proofs.Lays.n167 Tryz.prog layWb_ren := {
 mixed := by kernel_rfl
 f167 := Tryz.func171.trans (congrArg some (by kernel_rfl))
 f240 := Tryz.func198.trans (congrArg some (by kernel_rfl))
 f276 := Tryz.func222.trans (congrArg some (by kernel_rfl))
 t0 := Tryz.underlying0
 a0 := Tryz.isAgg0
 z0 := Tryz.sizeOf0
 v0 := Tryz.zeroValue0
 t4 := Tryz.underlying4
 a4 := Tryz.isAgg4
 z4 := Tryz.sizeOf4
 v4 := Tryz.zeroValue4
 t5 := Tryz.underlying5
 a5 := Tryz.isAgg5
 z5 := Tryz.sizeOf5
 v5 := Tryz.zeroValue5
 t9 := Tryz.underlying9
 a9 := Tryz.isAgg9
 z9 := Tryz.sizeOf9
 v9 := Tryz.zeroValue9
 t20 := Tryz.underlying20
 a20 := Tryz.isAgg20
 z20 := Tryz.sizeOf20
 v20 := Tryz.zeroValue20
 t37 := Tryz.underlying120
 a37 := Tryz.isAgg120
 z37 := Tryz.sizeOf120
 v37 := Tryz.zeroValue120
 t70 := Tryz.underlying158
 a70 := Tryz.isAgg158
 z70 := Tryz.sizeOf158
 v70 := Tryz.zeroValue158
 t72 := Tryz.underlying160
 a72 := Tryz.isAgg160
 z72 := Tryz.sizeOf160
 v72 := Tryz.zeroValue160
 t75 := Tryz.underlying162
 a75 := Tryz.isAgg162
 z75 := Tryz.sizeOf162
 v75 := Tryz.zeroValue162
 t164 := Tryz.underlying236
 a164 := Tryz.isAgg236
 z164 := Tryz.sizeOf236
 v164 := Tryz.zeroValue236 }
theorem layWb_extra : Builder.Extra Tryz.prog layWb_ren := {
 sizeBuilder := by kernel_rfl
 liesBuilder := by kernel_rfl
 t5 := Tryz.underlying5
 a5 := Tryz.isAgg5
 z5 := Tryz.sizeOf5
 v5 := Tryz.zeroValue5
 infoByte := by kernel_rfl
 cellsByte := by kernel_rfl
 sizeByte := by kernel_rfl
 neB5 := by decide }
end Go.Proofs

end

section
open Go Go.Proofs Go.RowKit
namespace Qv
theorem write1_ok {bs : Bytes} {c : UInt8} (hlen : bs.length + 1 ≤ 140737488355328) : BldTo C 171 [.int .u8 c.toNat] bs (some (bs ++ [c])) .nili :=
 bldTo_writeByte layWb layWb_extra rfl rfl rfl Tryz.func171 rfl rfl hlen
theorem bstring_ok {bs : Bytes} : BldTo C 170 [] bs none (.str bs) :=
 bldTo_string Tryz.lays169 Tryz.Builder_Extra_169 rfl rfl rfl Tryz.func170 rfl rfl
theorem below_grownT (w : World) (k : Nat) (os : Array Obj) : RowKit.Below w.heap.size w (Sort.grow (w.drewN k) os) :=
 ⟨rfl,rfl,rfl,by simp [Sort.grow],fun i hi => by
  show (w.heap ++ os)[i]? = w.heap[i]?
  rw [Array.getElem?_append_left hi]⟩
theorem itoaQ_ok (n : Int) (h0 : -9223372036854775808 ≤ n) (h1 : n ≤ 9223372036854775807) : CallsTo C 108 [.int .i64 n] (fun r => r = .val (.str (Lib.itoa n))) := by
 refine ⟨⟨_,Tryz.func108,rfl,rfl⟩,fun imm w vs hJ hn hi hl hr => ?_⟩
 match vs,hl with
 | [v0],_ =>
 have h := hr 0 v0 _ rfl rfl
 obtain rfl : v0 = .int .i64 n := by cases h; rfl
 refine (Tryz.strconv_Itoa n h0 h1 w hJ.1.1).mono ?_
 rintro e w' ⟨rfl,k,os,rfl⟩
 exact ⟨_,_,rfl,rfl,.str _,below_grownT w k os⟩
theorem below_bytesT (w : World) (t : ByteArray) : RowKit.Below w.heap.size w (Lib.bytesWorld w 5 t) :=
 ⟨by unfold Lib.bytesWorld World.freeze; split <;> rfl,by unfold Lib.bytesWorld World.freeze; split <;> rfl,by unfold Lib.bytesWorld World.freeze; split <;> rfl,by rw [Lib.bytesWorld_size]; omega,fun i hi => Lib.bytesWorld_at_old w 5 t i hi⟩
theorem atoiQ_ok (s : Bytes) (hs : s.length ≤ 281474976710656) : CallsTo C 172 [.str s] (fun r => (∃ v,atoT s = some v ∧ r = .val (.tup [.int .i64 v,.nili])) ∨ atoT s = none ∧ ∃ n,r = .val (.tup [.int .i64 n,.iface 241 (.imp [])])) := by
 refine ⟨⟨_,Tryz.func172,rfl,rfl⟩,fun imm w vs hJ hn hi hl hr => ?_⟩
 match vs,hl with
 | [v0],_ =>
 have h := hr 0 v0 _ rfl rfl
 obtain rfl : v0 = .string ⟨s.toArray⟩ := by cases h; rfl
 obtain ⟨⟨-,-,⟨t1,p1,h1⟩,⟨t2,p2,h2⟩⟩,-⟩ := hJ
 have hsz : (⟨s.toArray⟩ : ByteArray).size ≤ 281474976710656 := by rw [Lib.size_eq]; exact hs
 have bad : ∀ (n : Int) (N : Nat) (w' : World),RowKit.Below w.heap.size w w' → atoT s = none →
  ∃ v r,Ending.returned (.tuple #[.int .i64 n,.iface 241 (.pointer (some ⟨N,0,none⟩))]) = Ending.returned v ∧ ((∃ v,atoT s = some v ∧ r = .val (.tup [.int .i64 v,.nili])) ∨ atoT s = none ∧ ∃ n,r = .val (.tup [.int .i64 n,.iface 241 (.imp [])])) ∧ RetOK imm w.heap.size w' v r ∧ RowKit.Below w.heap.size w w' := fun n N w' hb hn => by
  refine ⟨_,.val (.tup [.int .i64 n,.iface 241 (.imp [])]),rfl,.inr ⟨hn,n,rfl⟩,?_,hb⟩
  refine .tup [_,_] [_,_] rfl fun i c x h1 h2 => ?_
  match i,h1,h2 with
  | 0,h1,h2 => cases h1; cases h2; exact .int _ _
  | 1,h1,h2 =>
    cases h1; cases h2
    exact .iface _ _ _ (.imp N 0 [] (fun _ => undef) (fun j y h => by simp at h) (fun j y h => by simp at h) (fun j y h => by simp at h) (fun j y h => by simp at h))
 cases hA : Lib.atoiAll s
 ·rename_i v
  have hv : atoT s = some v := by unfold atoT; rw [hA]
  refine (Tryz.strconv_Atoi_ok ⟨s.toArray⟩ (by omega) v hA w).mono ?_
  rintro e w' ⟨rfl,hw⟩
  have hb : RowKit.Below w.heap.size w w' := by
   rcases hw with rfl | ⟨t,rfl⟩
   ·exact RowKit.Below.refl _ _
   ·exact below_bytesT w t
  refine ⟨_,_,rfl,.inl ⟨v,hv,rfl⟩,?_,hb⟩
  refine .tup [_,_] [_,_] rfl fun i c x h1 h2 => ?_
  match i,h1,h2 with
  | 0,h1,h2 => cases h1; cases h2; exact .int _ _
  | 1,h1,h2 => cases h1; cases h2; exact .nili
 ·have hv : atoT s = none := by unfold atoT; rw [hA]
  refine (Any.strconv_Atoi_syntax_var Tryz.laysC172 ⟨s.toArray⟩ hsz hA t1 p1 w h1).mono ?_
  rintro e w' ⟨N,rfl,-,-,hb⟩
  exact bad _ N w' hb hv
 ·have hv : atoT s = none := by unfold atoT; rw [hA]
  refine (Tryz.strconv_Atoi_range_var ⟨s.toArray⟩ hsz hA t2 p2 w h2).mono ?_
  rintro e w' ⟨N,rfl,-,-,hb⟩
  exact bad _ N w' hb hv
theorem letterB_eq (c : UInt8) : letterB c = ((decide (97 ≤ (c.toNat : Int)) && decide ((c.toNat : Int) ≤ 122)) || (decide (48 ≤ (c.toNat : Int)) && decide ((c.toNat : Int) ≤ 57))) := by
 unfold letterB
 have h : ∀ d : UInt8,decide (d ≤ c) = decide ((d.toNat : Int) ≤ (c.toNat : Int)) := fun d => by
  rw [Bool.eq_iff_iff]; simp only [decide_eq_true_eq,UInt8.le_iff_toNat_le]; omega
 have h' : ∀ d : UInt8,decide (c ≤ d) = decide ((c.toNat : Int) ≤ (d.toNat : Int)) := fun d => by
  rw [Bool.eq_iff_iff]; simp only [decide_eq_true_eq,UInt8.le_iff_toNat_le]; omega
 rw [h,h,h',h']
 rfl
theorem letter_ok (c : UInt8) : CallsTo C 152 [.int .u8 c.toNat] (fun r => r = .val (.bool (letterB c))) := by
 rw [letterB_eq]
 refine cTo' Tryz.func152 rfl rfl rfl ?_
 refine ⟨none,?_⟩
 refine al_dec (fun h1 => ?_) (fun h1 => ?_)
 ·rw [decide_eq_true (show 97 ≤ (c.toNat : Int) from h1)]
  refine al_dec (fun h2 => ?_) (fun h2 => ?_)
  ·rw [decide_eq_true (show (c.toNat : Int) ≤ 122 from h2)]
   exact rfl
  ·rw [decide_eq_false (show ¬ (c.toNat : Int) ≤ 122 from h2),decide_eq_false (show ¬ (c.toNat : Int) ≤ 57 from fun h => by have : ¬ (c.toNat : Int) ≤ 122 := h2; omega)]
   refine al_dec (fun h3 => ?_) (fun h3 => ?_)
   ·refine al_dec (fun h4 => absurd h4 ?_) (fun h4 => ?_)
    ·intro h4
     have h4 : (c.toNat : Int) ≤ 57 := h4
     have : ¬ (c.toNat : Int) ≤ 122 := h2
     omega
    ·simp only [Bool.and_false,Bool.or_false]
     exact rfl
   ·exact absurd h3 (by have : 97 ≤ (c.toNat : Int) := h1; show ¬ ¬ (48 : Int) ≤ (c.toNat : Int); omega)
 ·rw [decide_eq_false (show ¬ 97 ≤ (c.toNat : Int) from h1)]
  refine al_dec (fun h3 => ?_) (fun h3 => ?_)
  ·rw [decide_eq_true (show 48 ≤ (c.toNat : Int) from h3)]
   refine al_dec (fun h4 => ?_) (fun h4 => ?_)
   ·rw [decide_eq_true (show (c.toNat : Int) ≤ 57 from h4)]
    exact rfl
   ·rw [decide_eq_false (show ¬ (c.toNat : Int) ≤ 57 from h4)]
    exact rfl
  ·rw [decide_eq_false (show ¬ 48 ≤ (c.toNat : Int) from h3)]
   exact rfl
end Qv

end

section
open Go Go.Proofs Go.RowKit
namespace Qv
theorem BldTo.pan {C : Ctx} {e : Extra} {l : List Nat} {p : Value → Prop} {n : Nat} {pfn : List FuncId} {f : FuncId} {args : List AV} {bs : Bytes} {out : Option Bytes} {r : AV} (h : BldTo C f args bs out r) : BldTo (((C.cut l).open e).pans p n pfn) f args bs out r := h
def pcells (s : Bytes) (at_ : Nat) (k : Int) (t : Bytes) (n : Int) (a : Nat) : List AV := [.str s,.int .i64 at_,.int .i64 k,.str t,.int .i64 n,.int .i64 a]
theorem drop_c {s : Bytes} {j : Nat} {c : UInt8} (h : s[j]? = some c) : s.drop j = c :: s.drop (j + 1) := by
 obtain ⟨hlt,rfl⟩ := List.getElem?_eq_some_iff.1 h
 exact List.drop_eq_getElem_cons hlt
theorem quoted_ok (s : Bytes) (i : Nat) (hs : s.length ≤ 2 ^ 30) (hi : i < s.length) : ObjToP C 151 (pcells s i 0 [] 0 i) []
 (fun r ys => ∃ p,strGo (s.drop (i + 1)) = some p ∧ r = .tup [] ∧ ys = pcells s (s.length - p.2.length) 3 p.1 0 i) (fun v => strGo (s.drop (i + 1)) = none ∧ v = .iface 99 (.int .i64 i)) := by
 have hw1 : IntKind.i64.wrap ((i : Int) + 1) = ((i + 1 : Nat) : Int) := by rw [wrap64 (by omega) (by omega)]; omega
 generalize hX : strGo (s.drop (i + 1)) = X
 refine objToP_of_evO _ [] ⟨[],[],false,[],[],[]⟩ [] Tryz.func151 rfl rfl rfl ?_
 refine ⟨_,hw1,?_⟩
 refine loopB 101 (fun x : Nat × Bytes => [(0,.ptr 999999 0),(2,.ptr 2 0),(3,.p (.int .i64 x.1))]) (fun _ => [(999999,mapP (pcells s i 0 [] 0 i))]) (fun x => [(2,x.2)])
  (fun x => i + 1 ≤ x.1 ∧ x.1 ≤ s.length ∧ x.2.length ≤ x.1 ∧ (strGo (s.drop x.1)).map (fun p => (x.2 ++ p.1,p.2)) = X) (fun x => s.length - x.1) (i + 1,[])
  ⟨Nat.le_refl _,hi,Nat.zero_le _,by rw [← hX]; cases strGo (s.drop (i + 1)) <;> rfl⟩ rfl ⟨wR,wR,wR,trivial⟩ ⟨hO1 rfl,trivial⟩ ⟨rfl,trivial⟩ ?_
 clear hX
 rintro ⟨j,acc⟩ ⟨h1,h2,h3,hX⟩
 simp only at h1 h2 h3 hX
 have hw5 : IntKind.i64.wrap ((j : Int) + 1) = ((j + 1 : Nat) : Int) := by rw [wrap64 (by omega) (by omega)]; omega
 refine al_dec (fun hlt => ?_) (fun hge => ?_)
 ·have hlt : (j : Int) < s.length := hlt
  obtain ⟨c,hc⟩ : ∃ c,s[j]? = some c := ⟨_,List.getElem?_eq_getElem (by omega)⟩
  rw [drop_c hc,strGo_cons] at hX
  refine ⟨by omega,c,idx_str rfl hc,?_⟩
  refine al_eq (fun e => ?_) (fun hne => ?_)
  ·obtain rfl : c = 34 := u8_eq (d := 34) e
   rw [if_pos rfl] at hX
   have hX : some (acc ++ [],s.drop (j + 1)) = X := hX
   rw [List.append_nil] at hX
   refine ⟨rfl,_,_,bstring_ok.pan,?_⟩
   refine ⟨_,hw5,?_⟩
   subst hX
   refine ⟨rfl,_,rfl,rfl,?_⟩
   have e2 : s.length - (s.drop (j + 1)).length = j + 1 := by rw [List.length_drop]; omega
   simp only [e2]
   exact rfl
  ·have hn34 : ¬ c = 34 := fun e => hne (by rw [e]; rfl)
   rw [if_neg hn34] at hX
   refine ⟨none,?_⟩
   refine al_eq (fun e => ?_) (fun hne => ?_)
   ·obtain rfl : c = 92 := u8_eq (d := 92) e
    rw [if_pos rfl] at hX
    refine ⟨_,hw5,?_⟩
    refine al_dec (fun hlt2 => ?_) (fun hge2 => ?_)
    ·have hlt2 : ((j + 1 : Nat) : Int) < s.length := hlt2
     have hw6 : IntKind.i64.wrap (((j + 1 : Nat) : Int) + 1) = ((j + 2 : Nat) : Int) := by rw [wrap64 (by omega) (by omega)]; omega
     obtain ⟨d,hd⟩ : ∃ d,s[j + 1]? = some d := ⟨_,List.getElem?_eq_getElem (by omega)⟩
     rw [drop_c hd] at hX
     simp only at hX
     refine ⟨_,hw5,by omega,d,idx_str rfl hd,?_⟩
     refine al_eq (fun e => ?_) (fun hne2 => ?_)
     ·have e : d = 34 := u8_eq (d := 34) e
      rw [if_pos (.inl e)] at hX
      have hX : (strGo (s.drop (j + 2))).map (fun p => ((acc ++ [d]) ++ p.1,p.2)) = X := by rw [← hX]; cases strGo (s.drop (j + 1 + 1)) <;> simp
      refine ⟨_,hw5,by omega,d,idx_str rfl hd,?_⟩
      refine ⟨rfl,some (acc ++ [d]),_,(write1_ok (bs := acc) (by omega)).pan,?_⟩
      refine ⟨_,hw6,?_⟩
      exact endB (j + 2,acc ++ [d]) ⟨by omega,by omega,by simp; omega,hX⟩ (by show s.length - (j + 2) < s.length - j; omega) rfl ⟨wR,wR,wR,trivial⟩ ⟨hO1 rfl,trivial⟩ ⟨rfl,trivial⟩
     ·refine ⟨_,hw5,by omega,d,idx_str rfl hd,?_⟩
      refine al_eq (fun e => ?_) (fun hne3 => ?_)
      ·have e : d = 92 := u8_eq (d := 92) e
       rw [if_pos (.inr e)] at hX
       have hX : (strGo (s.drop (j + 2))).map (fun p => ((acc ++ [d]) ++ p.1,p.2)) = X := by rw [← hX]; cases strGo (s.drop (j + 1 + 1)) <;> simp
       refine ⟨_,hw5,by omega,d,idx_str rfl hd,?_⟩
       refine ⟨rfl,some (acc ++ [d]),_,(write1_ok (bs := acc) (by omega)).pan,?_⟩
       refine ⟨_,hw6,?_⟩
       exact endB (j + 2,acc ++ [d]) ⟨by omega,by omega,by simp; omega,hX⟩ (by show s.length - (j + 2) < s.length - j; omega) rfl ⟨wR,wR,wR,trivial⟩ ⟨hO1 rfl,trivial⟩ ⟨rfl,trivial⟩
      ·rw [if_neg (by rintro (rfl | rfl); exact hne2 rfl; exact hne3 rfl)] at hX
       have hX : none = X := hX
       refine al_eq (fun _ => ?_) (fun hne9 => absurd rfl hne9)
       exact ⟨rfl,⟨hX.symm,rfl⟩,pcells s i 0 [] 0 i,rfl,rfl⟩
    ·have hge2 : ¬ ((j + 1 : Nat) : Int) < s.length := hge2
     have hdn : s.drop (j + 1) = [] := List.drop_eq_nil_of_le (by omega)
     rw [hdn] at hX
     have hX : none = X := hX
     refine al_eq (fun _ => ?_) (fun hne9 => absurd rfl hne9)
     exact ⟨rfl,⟨hX.symm,rfl⟩,pcells s i 0 [] 0 i,rfl,rfl⟩
   ·have hn92 : ¬ c = 92 := fun e => hne (by rw [e]; rfl)
    rw [if_neg hn92] at hX
    have hX : (strGo (s.drop (j + 1))).map (fun p => ((acc ++ [c]) ++ p.1,p.2)) = X := by rw [← hX]; cases strGo (s.drop (j + 1)) <;> simp
    refine al_eq (fun e => absurd e hne) (fun _ => ?_)
    refine ⟨rfl,some (acc ++ [c]),_,(write1_ok (bs := acc) (by omega)).pan,?_⟩
    refine ⟨_,hw5,?_⟩
    exact endB (j + 1,acc ++ [c]) ⟨by omega,by omega,by simp; omega,hX⟩ (by show s.length - (j + 1) < s.length - j; omega) rfl ⟨wR,wR,wR,trivial⟩ ⟨hO1 rfl,trivial⟩ ⟨rfl,trivial⟩
 ·have hge : ¬ (j : Int) < s.length := hge
  have hdn : s.drop j = [] := List.drop_eq_nil_of_le (by omega)
  rw [hdn] at hX
  have hX : none = X := hX
  exact ⟨rfl,⟨hX.symm,rfl⟩,pcells s i 0 [] 0 i,rfl,rfl⟩
end Qv

end

section
open Go Go.Proofs Go.RowKit
namespace Qv
def tokK : Tk → Int
 | .stop => 0
 | .bad => 0
 | .word _ => 1
 | .num _ => 2
 | .str _ => 3
 | .lp => 4
 | .rp => 4
def tokT : Tk → Bytes
 | .word k => wordB k
 | .num n => Lib.itoa (n : Int)
 | .str t => t
 | .lp => [40]
 | .rp => [41]
 | _ => []
def tokN : Tk → Int
 | .num n => n
 | _ => 0
def wordRows : List (List AV) := (wordsB.drop 1).map fun w => [AV.str w]
theorem findW_some {w : Bytes} : ∀ {l : List Bytes} {k m : Nat},findW w k l = some m → k ≤ m ∧ l[m - k]? = some w
 | [],_,_,h => by cases h
 | x :: l,k,m,h => by
   rw [findW] at h
   split at h
   ·rename_i e
    obtain rfl := Option.some.inj h
    exact ⟨Nat.le_refl _,by simp [e]⟩
   ·obtain ⟨h1,h2⟩ := findW_some h
    refine ⟨by omega,?_⟩
    rw [show m - k = (m - (k + 1)) + 1 from by omega,List.getElem?_cons_succ]
    exact h2
theorem wordIx_some {w : Bytes} {k : Nat} (h : wordIx w = some k) : 1 ≤ k ∧ k ≤ 13 ∧ wordB k = w := by
 obtain ⟨h1,h2⟩ := findW_some h
 have hlt := (List.getElem?_eq_some_iff.1 h2).1
 have hl : (wordsB.drop 1).length = 13 := rfl
 refine ⟨h1,by omega,?_⟩
 rw [List.getElem?_drop,show 1 + (k - 1) = k from by omega] at h2
 unfold wordB
 rw [List.getD_eq_getElem?_getD,h2]
 rfl
theorem runU_word {u : Bytes} {k : Nat} (h : wordIx (u.takeWhile letterB) = some k) : runU u = (.word k,u.dropWhile letterB) := by unfold runU; rw [h]
theorem runU_num {u : Bytes} {n : Nat} (h : wordIx (u.takeWhile letterB) = none) (h2 : numT (u.takeWhile letterB) = some n) : runU u = (.num n,u.dropWhile letterB) := by unfold runU; rw [h,h2]
theorem runU_bad {u : Bytes} (h : wordIx (u.takeWhile letterB) = none) (h2 : numT (u.takeWhile letterB) = none) : runU u = (.bad,[]) := by unfold runU; rw [h,h2]
theorem atoT_lo {w : Bytes} {v : Int} (h : atoT w = some v) : -9223372036854775808 ≤ v := by
 unfold atoT at h
 split at h
 ·rename_i u hu
  obtain rfl := Option.some.inj h
  unfold Lib.atoiAll at hu
  split at hu
  ·cases hu
  ·simp only at hu
   split at hu
   ·cases hu
   ·cases hu
   ·split at hu
    ·cases hu
    ·split at hu
     ·cases hu
     ·injection hu with hu
      subst hu
      split <;> omega
 ·cases h
theorem run_ok (s : Bytes) (i : Nat) (hs : s.length ≤ 2 ^ 30) (hi : i < s.length) (hl : ∀ c,s[i]? = some c → letterB c = true) : ObjToP C 153 (pcells s i 0 [] 0 i) []
 (fun r ys => (runU (s.drop i)).1.isEnd = false ∧ r = .tup [] ∧ ys = pcells s (s.length - (runU (s.drop i)).2.length) (tokK (runU (s.drop i)).1) (tokT (runU (s.drop i)).1) (tokN (runU (s.drop i)).1) i)
 (fun v => (runU (s.drop i)).1 = .bad ∧ v = .iface 99 (.int .i64 i)) := by
 refine objToP_of_evO _ [] ⟨[],[],false,[],[],[]⟩ [] Tryz.func153 rfl rfl rfl ?_
 generalize hW : (s.drop i).takeWhile letterB = W
 generalize hR : (s.drop i).dropWhile letterB = R
 have hWR : s.drop i = W ++ R := by rw [← hW,← hR,List.takeWhile_append_dropWhile]
 have hlen : s.length - i = W.length + R.length := by rw [← List.length_drop,hWR,List.length_append]
 refine loopR 95 (fun m : Nat => [(0,.ptr 999999 0),(2,.p (.int .i64 m))]) (fun _ => [(999999,mapP (pcells s i 0 [] 0 i))])
  (fun m => i ≤ m ∧ m ≤ s.length ∧ (s.drop m).dropWhile letterB = R ∧ (m - i) + ((s.drop m).takeWhile letterB).length = W.length) (fun m => s.length - m) i
  ⟨Nat.le_refl _,by omega,hR,by rw [hW]; omega⟩ rfl ⟨wR,wR,trivial⟩ ⟨hO1 rfl,trivial⟩ ?_
 rintro m ⟨h1,h2,h3,h4⟩
 have hw5 : IntKind.i64.wrap ((m : Int) + 1) = ((m + 1 : Nat) : Int) := by rw [wrap64 (by omega) (by omega)]; omega
 have hb : ∃ b : Bool,(match s[m]? with | some c => letterB c | none => false) = b := ⟨_,rfl⟩
 obtain ⟨b,hb⟩ := hb
 refine ⟨some (fun vs => vs = [.p (.bool b)]),keepA (.p (.bool b)) 27 rfl ?_ ?_⟩
 ·refine al_dec (fun hlt => ?_) (fun hge => ?_)
  ·have hlt : (m : Int) < s.length := hlt
   obtain ⟨c,hc⟩ : ∃ c,s[m]? = some c := ⟨_,List.getElem?_eq_getElem (by omega)⟩
   rw [hc] at hb
   have hb : letterB c = b := hb
   subst hb
   refine ⟨by omega,c,idx_str rfl hc,?_⟩
   refine ⟨_,(letter_ok c).pan,?_⟩
   exact rfl
  ·have hge : ¬ (m : Int) < s.length := hge
   rw [List.getElem?_eq_none (by omega)] at hb
   have hb : false = b := hb
   subst hb
   exact rfl
 cases b with
 | true =>
   obtain ⟨c,hc⟩ : ∃ c,s[m]? = some c := by
    cases hq : s[m]? with
    | none => rw [hq] at hb; cases hb
    | some c => exact ⟨c,rfl⟩
   have hlt := (List.getElem?_eq_some_iff.1 hc).1
   rw [hc] at hb
   have hb : letterB c = true := hb
   rw [drop_c hc,List.dropWhile_cons,if_pos hb] at h3
   rw [drop_c hc,List.takeWhile_cons,if_pos hb,List.length_cons] at h4
   refine ⟨_,hw5,?_⟩
   exact roundR (m + 1) ⟨by omega,by omega,h3,by omega⟩ (by show s.length - (m + 1) < s.length - m; omega) rfl ⟨wR,wR,trivial⟩ ⟨hO1 rfl,trivial⟩
 | false =>
   have hnil : (s.drop m).takeWhile letterB = [] ∧ s.drop m = R := by
    cases hq : s[m]? with
    | none =>
      have : s.drop m = [] := List.drop_eq_nil_of_le (by rcases Nat.lt_or_ge m s.length with h | h; rw [List.getElem?_eq_getElem h] at hq; cases hq; exact h)
      rw [this] at h3 ⊢
      exact ⟨rfl,h3⟩
    | some c =>
      rw [hq] at hb
      have hb : letterB c = false := hb
      rw [drop_c hq] at h3 ⊢
      rw [List.dropWhile_cons,if_neg (by rw [hb]; simp)] at h3
      exact ⟨by rw [List.takeWhile_cons,if_neg (by rw [hb]; simp)],h3⟩
   have hm : m = i + W.length := by rw [hnil.1] at h4; simp at h4; omega
   have hs3 : (s.take m).drop i = W := by
    rw [List.drop_take,hWR,hm,Nat.add_sub_cancel_left,List.take_left]
   clear hb h3 h4
   refine lex2 11 (by kernel_rfl) ?_
   refine ⟨.p (.str W),⟨m,rfl,i,rfl,by omega,by omega,W,hs3,rfl⟩,?_⟩
   have hWlen : W.length ≤ s.length := by omega
   refine ⟨1,rfl,by omega,Nat.le_refl _,rfl,rfl,wordRows,rfl,?_⟩
   have hRm : s.length - R.length = m := by omega
   generalize hY : wordIx W = Y
   have hpan : runU (s.drop i) = (.bad,[]) → ((runU (s.drop i)).1 = .bad ∧ (Value.iface 99 (.int .i64 i)) = .iface 99 (.int .i64 i)) := fun h => ⟨by rw [h],rfl⟩
   refine loopR 95 (fun k : Nat => [(0,.ptr 999999 0),(3,.p (.str W)),(53,.p (.sl wordRows)),(54,.p (.int .i64 13)),(55,.p (.int .i64 k))]) (fun _ => [(999999,mapP (pcells s m 1 W 0 i))])
    (fun k => k ≤ 13 ∧ findW W (k + 1) ((wordsB.drop 1).drop k) = Y) (fun k => 13 - k) 0 ⟨by omega,hY⟩ rfl ⟨wR,wR,wR,wR,wR,trivial⟩ ⟨hO1 rfl,trivial⟩ ?_
   rintro k ⟨hk,hf⟩
   have hwk : IntKind.i64.wrap ((k : Int) + 1) = ((k + 1 : Nat) : Int) := by rw [wrap64 (by omega) (by omega)]; omega
   refine al_dec (fun hlt => ?_) (fun hge => ?_)
   ·have hlt : (k : Int) < 13 := hlt
    have hkl : k < (wordsB.drop 1).length := by show k < 13; omega
    rw [List.drop_eq_getElem_cons hkl,findW] at hf
    refine ⟨by omega,_,idx_map (f := fun w => [AV.str w]) rfl hkl,rfl,?_⟩
    refine al_eq (fun e => ?_) (fun hne => ?_)
    ·rw [if_pos e] at hf
     subst hf
     have hru : runU (s.drop i) = (.word (k + 1),R) := by rw [← hR]; exact runU_word (by rw [hW]; exact hY)
     obtain ⟨-,-,hwb⟩ := wordIx_some hY
     refine ⟨rfl,?_⟩
     rw [hru]
     refine ⟨rfl,rfl,?_⟩
     show pcells s m 1 W 0 i = pcells s (s.length - R.length) 1 (wordB (k + 1)) 0 i
     rw [hRm,hwb]
    ·rw [if_neg (fun e => hne e)] at hf
     exact ⟨_,hwk,roundR (k + 1) ⟨by omega,hf⟩ (by show 13 - (k + 1) < 13 - k; omega) rfl ⟨wR,wR,wR,wR,wR,trivial⟩ ⟨hO1 rfl,trivial⟩⟩
   ·have hge : ¬ (k : Int) < 13 := hge
    obtain rfl : k = 13 := by omega
    have hf : none = Y := hf
    subst hf
    clear hk hge hwk
    refine ⟨_,(atoiQ_ok W (by omega)).pan,?_⟩
    rintro r (⟨v,hv,rfl⟩ | ⟨hv,n,rfl⟩)
    ·have hlo := atoT_lo hv
     refine ⟨none,?_⟩
     refine al_dec (fun hgt => ?_) (fun hle => ?_)
     ·have hgt : v > 1099511627776 := hgt
      have hru : runU (s.drop i) = (.bad,[]) := runU_bad (by rw [hW]; exact hY) (by rw [hW]; unfold numT; rw [hv]; exact if_neg (by omega))
      exact ⟨rfl,hpan hru,pcells s m 1 W 0 i,rfl,rfl⟩
     ·have hle : ¬ v > 1099511627776 := hle
      refine ⟨_,(itoaQ_ok v hlo (by omega)).pan,?_⟩
      rintro r rfl
      refine al_nes (fun hne => ?_) (fun he => ?_)
      ·have hru : runU (s.drop i) = (.bad,[]) := runU_bad (by rw [hW]; exact hY) (by rw [hW]; unfold numT; rw [hv]; exact if_neg (fun h => hne h.2.2))
       exact ⟨rfl,hpan hru,pcells s m 1 W 0 i,rfl,rfl⟩
      ·have he : Lib.itoa v = W := he
       have h0 : 0 ≤ v := by
        apply Classical.byContradiction
        intro hneg
        have h45 : (45 : UInt8) ∈ W := by
         rw [← he]
         unfold Lib.itoa
         rw [if_pos (by omega)]
         exact List.mem_cons_self
        have := takeAllT (s.drop i) 45 (by rw [hW]; exact h45)
        revert this
        decide
       have hnum : numT W = some v.toNat := by unfold numT; rw [hv]; exact if_pos ⟨h0,by omega,he⟩
       have hru : runU (s.drop i) = (.num v.toNat,R) := by rw [← hR]; exact runU_num (by rw [hW]; exact hY) (by rw [hW]; exact hnum)
       refine ⟨rfl,?_⟩
       rw [hru]
       refine ⟨rfl,rfl,?_⟩
       show pcells s m 2 W v i = pcells s (s.length - R.length) 2 (Lib.itoa (v.toNat : Int)) (v.toNat : Int) i
       rw [hRm,Int.toNat_of_nonneg h0,he]
    ·have hru : runU (s.drop i) = (.bad,[]) := runU_bad (by rw [hW]; exact hY) (by rw [hW]; unfold numT; rw [hv])
     refine ⟨none,?_⟩
     exact ⟨rfl,hpan hru,pcells s m 1 W 0 i,rfl,rfl⟩
end Qv

end

section
open Go Go.Proofs Go.RowKit
namespace Qv
def ecells (s : Bytes) (e : Tk × (Bytes × Bytes)) : List AV := pcells s (s.length - e.2.2.length) (tokK e.1) (tokT e.1) (tokN e.1) (s.length - e.2.1.length)
def headT (t : Bytes) : Tk × (Bytes × Bytes) := ((lexU (unbl t)).1,(unbl t,(lexU (unbl t)).2))
def pval (i : Nat) : Value := .iface 99 (.int .i64 i)
theorem lexU_cons (c : UInt8) (r : Bytes) : lexU (c :: r) = (if c = 40 then (.lp,r) else if c = 41 then (.rp,r)
 else if c = 34 then (match strGo r with
  | some p => (.str p.1,p.2)
  | none => (.bad,[]))
 else if letterB c = true then runU (c :: r) else (.bad,[])) := rfl
theorem advance_ok (s : Bytes) (i : Nat) (k : Int) (t : Bytes) (n : Int) (a : Nat) (hs : s.length ≤ 2 ^ 30) (hi : i ≤ s.length) : ObjToP C 116 (pcells s i k t n a) []
 (fun r ys => (headT (s.drop i)).1.bad? = false ∧ r = .tup [] ∧ ys = ecells s (headT (s.drop i)))
 (fun v => (headT (s.drop i)).1.bad? = true ∧ v = pval (s.length - (headT (s.drop i)).2.1.length)) := by
 refine objToP_of_evO _ [151,153] ⟨[],[],false,[],[],[]⟩ [] Tryz.func116 rfl rfl rfl ?_
 refine loopR 110 (fun m : Nat => [(0,.ptr 999999 0)]) (fun m => [(999999,mapP (pcells s m k t n a))])
  (fun m => m ≤ s.length ∧ unbl (s.drop m) = unbl (s.drop i)) (fun m => s.length - m) i ⟨hi,rfl⟩ rfl ⟨wR,trivial⟩ ⟨hO1 rfl,trivial⟩ ?_
 rintro m ⟨hm,hu⟩
 have hw5 : IntKind.i64.wrap ((m : Int) + 1) = ((m + 1 : Nat) : Int) := by rw [wrap64 (by omega) (by omega)]; omega
 have hb : ∃ b : Bool,(match s[m]? with | some c => isBl c | none => false) = b := ⟨_,rfl⟩
 obtain ⟨b,hb⟩ := hb
 refine keepV (.p (.bool b)) 36 (by kernel_rfl) (by rfl) ?_ ?_
 ·refine al_dec (fun hlt => ?_) (fun hge => ?_)
  ·have hlt : (m : Int) < s.length := hlt
   obtain ⟨c,hc⟩ : ∃ c,s[m]? = some c := ⟨_,List.getElem?_eq_getElem (by omega)⟩
   rw [hc] at hb
   have hb : isBl c = b := hb
   refine ⟨by omega,c,idx_str rfl hc,?_⟩
   refine al_eq (fun e => ?_) (fun hne => ?_)
   ·obtain rfl : c = 32 := u8_eq (d := 32) e
    have hb : true = b := hb
    subst hb
    exact rfl
   ·refine ⟨by omega,c,idx_str rfl hc,?_⟩
    refine al_eq (fun e => ?_) (fun hne2 => ?_)
    ·obtain rfl : c = 10 := u8_eq (d := 10) e
     have hb : true = b := hb
     subst hb
     exact rfl
    ·have : isBl c = false := by
      simp only [isBl,Bool.or_eq_false_iff,beq_eq_false_iff_ne]
      exact ⟨fun e => hne (by rw [e]; rfl),fun e => hne2 (by rw [e]; rfl)⟩
     rw [this] at hb
     subst hb
     exact rfl
  ·have hge : ¬ (m : Int) < s.length := hge
   rw [List.getElem?_eq_none (by omega)] at hb
   have hb : false = b := hb
   subst hb
   exact rfl
 cases b with
 | true =>
   obtain ⟨c,hc⟩ : ∃ c,s[m]? = some c := by
    cases hq : s[m]? with
    | none => rw [hq] at hb; cases hb
    | some c => exact ⟨c,rfl⟩
   have hlt := (List.getElem?_eq_some_iff.1 hc).1
   rw [hc] at hb
   have hb : isBl c = true := hb
   rw [drop_c hc,unbl,List.dropWhile_cons,if_pos hb] at hu
   refine ⟨_,hw5,?_⟩
   exact roundR (m + 1) ⟨by omega,hu⟩ (by show s.length - (m + 1) < s.length - m; omega) rfl ⟨wR,trivial⟩ ⟨hO1 rfl,trivial⟩
 | false =>
   have hum : unbl (s.drop i) = s.drop m := by
    rw [← hu]
    cases hq : s[m]? with
    | none =>
      have : s.drop m = [] := List.drop_eq_nil_of_le (by rcases Nat.lt_or_ge m s.length with h | h; rw [List.getElem?_eq_getElem h] at hq; cases hq; exact h)
      rw [this]; rfl
    | some c =>
      rw [hq] at hb
      have hb : isBl c = false := hb
      rw [drop_c hq,unbl,List.dropWhile_cons,if_neg (by rw [hb]; simp)]
   unfold headT
   rw [hum]
   have hlm : s.length - (s.drop m).length = m := by rw [List.length_drop]; omega
   simp only [hlm]
   clear hu hb hw5
   refine lex2 10 (by kernel_rfl) ?_
   refine al_eq (fun he => ?_) (fun hne => ?_)
   ·have he : (m : Int) = s.length := he
    obtain rfl : m = s.length := by omega
    rw [List.drop_length]
    refine ⟨rfl,rfl,rfl,?_⟩
    show pcells s s.length 0 [] 0 s.length = pcells s (s.length - 0) 0 [] 0 (s.length - 0)
    rfl
   ·have hne : ¬ (m : Int) = s.length := hne
    obtain ⟨c,hc⟩ : ∃ c,s[m]? = some c := ⟨_,List.getElem?_eq_getElem (by omega)⟩
    have hml : m < s.length := by omega
    have hd := drop_c hc
    rw [hd]
    have hw5 : IntKind.i64.wrap ((m : Int) + 1) = ((m + 1 : Nat) : Int) := by rw [wrap64 (by omega) (by omega)]; omega
    have hl1 : s.length - (s.drop (m + 1)).length = m + 1 := by rw [List.length_drop]; omega
    have hlc : s.length - (c :: s.drop (m + 1)).length = m := by rw [← hd]; exact hlm
    refine lex2 10 (by kernel_rfl) ?_
    refine ⟨by omega,c,idx_str rfl hc,?_⟩
    refine ⟨none,?_⟩
    refine al_eq (fun e => ?_) (fun h40 => ?_)
    ·obtain rfl : c = 40 := u8_eq (d := 40) e
     refine ⟨40,rfl,by decide,_,hw5,?_⟩
     refine ⟨rfl,rfl,rfl,?_⟩
     show pcells s (m + 1) 4 [40] 0 m = pcells s (s.length - (s.drop (m + 1)).length) 4 [40] 0 (s.length - (40 :: s.drop (m + 1)).length)
     rw [hl1,hlc]
    refine al_eq (fun e => ?_) (fun h41 => ?_)
    ·obtain rfl : c = 41 := u8_eq (d := 41) e
     refine ⟨41,rfl,by decide,_,hw5,?_⟩
     refine ⟨rfl,rfl,rfl,?_⟩
     show pcells s (m + 1) 4 [41] 0 m = pcells s (s.length - (s.drop (m + 1)).length) 4 [41] 0 (s.length - (41 :: s.drop (m + 1)).length)
     rw [hl1,hlc]
    have n40 : ¬ c = 40 := fun e => h40 (by rw [e]; rfl)
    have n41 : ¬ c = 41 := fun e => h41 (by rw [e]; rfl)
    refine al_eq (fun e => ?_) (fun h34 => ?_)
    ·obtain rfl : c = 34 := u8_eq (d := 34) e
     have hlex : lexU (34 :: s.drop (m + 1)) = (match strGo (s.drop (m + 1)) with
      | some p => (.str p.1,p.2)
      | none => (.bad,[])) := rfl
     rw [hlex]
     refine ⟨rfl,rfl,rfl,rfl,_,_,(quoted_ok s m hs hml).opn,?_,?_⟩
     ·rintro r ys ⟨p,hp,rfl,rfl⟩
      rw [hp]
      refine ⟨rfl,rfl,rfl,?_⟩
      show pcells s (s.length - p.2.length) 3 p.1 0 m = pcells s (s.length - p.2.length) 3 p.1 0 (s.length - (34 :: s.drop (m + 1)).length)
      rw [hlc]
     ·rintro v ⟨hp,rfl⟩
      rw [hp]
      refine ⟨rfl,?_⟩
      rfl
    have n34 : ¬ c = 34 := fun e => h34 (by rw [e]; rfl)
    refine ⟨_,(letter_ok c).pan,?_⟩
    rintro r rfl
    cases hlet : letterB c with
    | true =>
      have hlex : lexU (c :: s.drop (m + 1)) = runU (c :: s.drop (m + 1)) := by rw [lexU_cons,if_neg n40,if_neg n41,if_neg n34,if_pos hlet]
      rw [hlex]
      refine ⟨rfl,rfl,rfl,rfl,_,_,(run_ok s m hs hml (fun d hd => by rw [hc] at hd; obtain rfl := Option.some.inj hd; exact hlet)).opn,?_,?_⟩
      ·rw [hd]
       rintro r ys ⟨he,rfl,rfl⟩
       have hbad : (runU (c :: s.drop (m + 1))).1.bad? = false := by
        cases hq : (runU (c :: s.drop (m + 1))).1 <;> first | rfl | (rw [hq] at he; cases he)
       refine ⟨rfl,hbad,rfl,?_⟩
       show _ = pcells s _ _ _ _ (s.length - (c :: s.drop (m + 1)).length)
       rw [hlc]
       rfl
      ·rw [hd]
       rintro v ⟨he,rfl⟩
       refine ⟨by rw [he]; rfl,?_⟩
       rfl
    | false =>
      have hlex : lexU (c :: s.drop (m + 1)) = (.bad,[]) := by rw [lexU_cons,if_neg n40,if_neg n41,if_neg n34,if_neg (by rw [hlet]; simp)]
      rw [hlex]
      refine ⟨rfl,⟨rfl,?_⟩,pcells s m 0 [] 0 m,rfl,rfl⟩
      rfl
end Qv

end

section
open Go Go.Proofs Go.RowKit
namespace Qv
def hcells (s : Bytes) : Toks → List AV
 | e :: _ => ecells s e
 | [] => []
def offT (s : Bytes) (a : Bytes × Bytes) : Nat := s.length - a.1.length
def Good (l : Toks) : Prop := ∃ e l',l = e :: l' ∧ e.1.bad? = false
theorem okT_good {l : Toks} {K : Toks → Option (PR (Bytes × Bytes))} (h : Good l) : okT l K = K l := by
 obtain ⟨⟨t,a⟩,l',rfl,h⟩ := h
 cases t <;> first | rfl | cases h
theorem adv_ok (s : Bytes) (hs : s.length ≤ 2 ^ 30) (e : Tk × (Bytes × Bytes)) (l : Toks) (h : TL s (e :: l)) (he : e.1.isEnd = false) :
 ObjToP C 116 (ecells s e) [] (fun r ys => Good l ∧ r = .tup [] ∧ ys = hcells s l) (fun v => ∃ a l',l = (.bad,a) :: l' ∧ v = pval (offT s a)) := by
 obtain ⟨i,hi,h1,h2,h3,h4⟩ := tl_cons h
 obtain ⟨h5,h6,h7⟩ := h2 he
 have := advance_ok s (s.length - e.2.2.length) (tokK e.1) (tokT e.1) (tokN e.1) (s.length - e.2.1.length) hs (Nat.sub_le _ _)
 rw [h6] at this
 have hl : l = headT e.2.2 :: (if (lexU (unbl e.2.2)).1.isEnd = true then [] else toks (lexU (unbl e.2.2)).2) := by rw [h7,toks_eq]; rfl
 refine this.mono ?_ ?_
 ·rintro r ys ⟨g1,rfl,rfl⟩
  exact ⟨⟨_,_,hl,g1⟩,rfl,by rw [hl]; rfl⟩
 ·rintro v ⟨g1,rfl⟩
  have hb : headT e.2.2 = (.bad,(headT e.2.2).2) := by
   cases hq : headT e.2.2 with
   | mk t a =>
     rw [hq] at g1
     cases t <;> first | rfl | cases g1
  exact ⟨(headT e.2.2).2,_,by rw [← hb]; exact hl,rfl⟩
theorem runU_wordb {u : Bytes} {k : Nat} (h : (runU u).1 = .word k) : 1 ≤ k ∧ k ≤ 13 := by
 unfold runU at h
 split at h
 ·rename_i k' hk
  injection h with h
  subst h
  obtain ⟨h1,h2,-⟩ := wordIx_some hk
  exact ⟨h1,h2⟩
 ·split at h <;> cases h
theorem lexU_word {u : Bytes} {k : Nat} (h : (lexU u).1 = .word k) : 1 ≤ k ∧ k ≤ 13 := by
 cases u with
 | nil => cases h
 | cons c r =>
   rw [lexU_cons] at h
   split at h
   ·cases h
   ·split at h
    ·cases h
    ·split at h
     ·split at h <;> cases h
     ·split at h
      ·exact runU_wordb h
      ·cases h
theorem tl_word {s : Bytes} {k : Nat} {a : Bytes × Bytes} {l : Toks} (h : TL s ((.word k,a) :: l)) : 1 ≤ k ∧ k ≤ 13 := by
 obtain ⟨i,hi,h1,-⟩ := tl_cons h
 injection h1 with h1
 exact lexU_word h1.symm
theorem wordB_inj {j k : Nat} (hj : 1 ≤ j) (hj' : j ≤ 13) (hk : 1 ≤ k) (hk' : k ≤ 13) (h : wordB j = wordB k) : j = k := by
 have h1 := (wordB_ok j hj hj').2.2
 have h2 := (wordB_ok k hk hk').2.2
 rw [h,h2] at h1
 exact (Option.some.inj h1).symm
theorem word_ok (s : Bytes) (hs : s.length ≤ 2 ^ 30) (k : Nat) (hk : 1 ≤ k) (hk' : k ≤ 13) (l : Toks) (h : GL s l) :
 ObjToP C 173 (hcells s l) [.p (.str (wordB k))]
  (fun r ys => (∃ a l',l = (.word k,a) :: l' ∧ Good l' ∧ r = .bool true ∧ ys = hcells s l') ∨ ((¬ ∃ a l',l = (.word k,a) :: l') ∧ r = .bool false ∧ ys = hcells s l))
  (fun v => ∃ a b l',l = (.word k,a) :: (.bad,b) :: l' ∧ v = pval (offT s b)) := by
 obtain ⟨ht,⟨t,a⟩,l,rfl,hb⟩ := h
 refine objToP_of_evO _ [116] ⟨[],[],false,[],[],[]⟩ [] Tryz.func173 rfl rfl rfl ?_
 have no : (∀ j,t = .word j → j ≠ k) → (¬ ∃ a' l',(t,a) :: l = (Tk.word k,a') :: l') := fun hno => by
  rintro ⟨a',l',e⟩
  injection e with e _
  injection e with e _
  exact hno k e rfl
 refine ⟨none,?_⟩
 cases t
 case word j =>
  obtain ⟨hj,hj'⟩ := tl_word ht
  refine al_ne (fun h => absurd rfl h) (fun _ => ?_)
  refine al_nes (fun hne => ?_) (fun he => ?_)
  ·have hne : wordB j ≠ wordB k := hne
   refine ⟨rfl,.inr ⟨no ?_,rfl,rfl⟩⟩
   rintro j' e rfl
   injection e with e
   subst e
   exact hne rfl
  ·have he : wordB j = wordB k := he
   obtain rfl := wordB_inj hj hj' hk hk' he
   refine ⟨rfl,rfl,rfl,rfl,_,_,(adv_ok s hs _ l ht rfl).opn,?_,?_⟩
   ·rintro r ys ⟨g1,rfl,rfl⟩
    obtain ⟨⟨t2,a2⟩,l2,rfl,g2⟩ := g1
    exact ⟨rfl,.inl ⟨_,_,rfl,⟨_,_,rfl,g2⟩,rfl,rfl⟩⟩
   ·rintro v ⟨b,l',rfl,rfl⟩
    exact ⟨_,_,_,rfl,rfl⟩
 all_goals
  refine al_ne (fun _ => ?_) (fun h => absurd h (by intro h; simp [tokK] at h))
  exact ⟨rfl,.inr ⟨no (fun j e => by cases e),rfl,rfl⟩⟩
theorem expect_ok (s : Bytes) (hs : s.length ≤ 2 ^ 30) (kk : Int) (hkk : kk = 2 ∨ kk = 3) (e : Tk × (Bytes × Bytes)) (l : Toks) (h : TL s (e :: l)) :
 ObjToP C 228 (ecells s e) [.p (.int .i64 kk)]
  (fun r ys => tokK e.1 = kk ∧ Good l ∧ r = .agg [.int .i64 (tokK e.1),.str (tokT e.1),.int .i64 (tokN e.1),.int .i64 (offT s e.2)] ∧ ys = hcells s l)
  (fun v => (tokK e.1 ≠ kk ∧ v = pval (offT s e.2)) ∨ (tokK e.1 = kk ∧ ∃ a l',l = (.bad,a) :: l' ∧ v = pval (offT s a))) := by
 refine objToP_of_evO _ [116] ⟨[],[],false,[],[],[]⟩ [] Tryz.func228 rfl rfl rfl ?_
 refine al_ne (fun hne => ?_) (fun he => ?_)
 ·have hne : tokK e.1 ≠ kk := hne
  exact ⟨rfl,.inl ⟨hne,rfl⟩,ecells s e,rfl,rfl⟩
 ·have he : tokK e.1 = kk := he
  have hend : e.1.isEnd = false := by
   obtain ⟨t,a⟩ := e
   cases t <;> first | rfl | (rcases hkk with rfl | rfl <;> cases he)
  refine ⟨rfl,rfl,rfl,rfl,_,_,(adv_ok s hs e l h hend).opn,?_,?_⟩
  ·rintro r ys ⟨g1,rfl,rfl⟩
   obtain ⟨⟨t2,a2⟩,l2,rfl,g2⟩ := g1
   exact ⟨rfl,he,⟨_,_,rfl,g2⟩,rfl,rfl⟩
  ·rintro v ⟨b,l',rfl,rfl⟩
   exact .inr ⟨he,_,_,rfl,rfl⟩
end Qv

end
