/- Several texts in one: The context of the seat of the queries: the table of its types and what follows. No condition. -/
import Derived.Test.YtpoefbbfhebakaaGreatDoorFv4
import Derived.Test.YtpoefbbfhebakaaGreatDoorProg
import Derived.KernelRfl
import Derived.Lib.LaidTab
import Derived.Shelf.Strings.Builder1
import Derived.Shelf.Strings.Builder2
import Derived.Shelf.Strings.Trim
import Derived.Shelf.Small.Utf8
import Derived.Shelf.Small.Strs
import Derived.Shelf.Strconv.Atoi
import Derived.Shelf.Strconv.Itoa0
import Derived.Shelf.Strconv.Itoa1
import Derived.Shelf.LaysM
import Derived.Shelf.Strconv.Itoa2
import Derived.Shelf.Strconv.Itoa3
import Derived.Shelf.Strconv.AtoiErrFast
import Derived.Shelf.Strconv.ParseIntEmpty
import Derived.Shelf.Strconv.AtoiFail
import Derived.Shelf.Strconv.Clone
import Derived.Shelf.Strconv.SyntaxError
import Derived.Shelf.LaysC
import Derived.Shelf.Strconv.ToError
import Derived.Shelf.Strconv.Lower
import Derived.Shelf.Strconv.ParseUint10
import Derived.Shelf.Strconv.ParseUint10Empty
import Derived.Shelf.Strconv.ParseUint10Any
import Derived.Shelf.Strconv.ParseInt10
import Derived.Shelf.Strconv.AtoiLong
import Derived.Shelf.Strconv.AtoiInnerAll
import Derived.Shelf.Strconv.RangeError
import Derived.Shelf.Strconv.ToErrorRange
import Derived.Shelf.Strconv.AtoiAll
import Derived.Shelf.Strconv.ErrVarAll
import Derived.Shelf.Strings.Search1
import Derived.Shelf.Strings.Search2
import Derived.Shelf.Strings.Search3
import Derived.Shelf.Strings.Count
import Derived.Shelf.Strings.Shaped
import Derived.Shelf.Strings.Prefix
import Derived.Shelf.Strings.Split
import Derived.Shelf.Strings.Runes
import Derived.Shelf.Strings.AsciiSet
import Derived.Shelf.Unicode.DecodeSlow
import Derived.Shelf.Unicode.DecodeAny
set_option linter.unusedVariables false
set_option linter.unusedSimpArgs false

section
open Go Go.Proofs Go.RowKit
namespace Qv
theorem wR {v : FV} : Weak v v := Weak.refl v
def qryJ (w : World) : Prop := True ∧ (∃ m,w.cell? ⟨3,0,none⟩ = some (.int .i64 m)) ∧ True
theorem qryJ_stable (w w' : World) (h : ∀ k,k < 4 → w'.heap[k]? = w.heap[k]?) (hJ : qryJ w) : qryJ w' := by
 obtain ⟨-,⟨m,h2⟩,-⟩ := hJ
 refine ⟨trivial,⟨m,?_⟩,trivial⟩
 rw [← h2]
 simp only [World.cell?,h 3 (by decide)]
def tab : List (TypeId × TInfo) := [
 (3,⟨1,8,.int .i64,[.int .i64 0]⟩),
 (4,⟨1,1,.bool,[.bool false]⟩),
 (5,⟨1,1,.int .u8,[.int .u8 0]⟩),
 (9,⟨1,16,.str,[.string ⟨#[]⟩]⟩),
 (20,⟨1,16,.iface,[.nilIface]⟩),
 (21,⟨1,4,.int .i32,[.int .i32 0]⟩),
 (22,⟨1,24,.slice 24,[.slice none 0 0]⟩),
 (24,⟨4,56,.struct [(0,3),(1,9),(2,3),(3,22)],[.int .i64 0,.string ⟨#[]⟩,.int .i64 0,.slice none 0 0]⟩),
 (27,⟨1,8,.int .i64,[.int .i64 0]⟩),
 (30,⟨1,8,.func,[.nilFunc]⟩),
 (31,⟨1,8,.func,[.nilFunc]⟩),
 (39,⟨1,24,.slice 4,[.slice none 0 0]⟩),
 (44,⟨1,24,.slice 9,[.slice none 0 0]⟩),
 (46,⟨1,24,.slice 3,[.slice none 0 0]⟩),
 (53,⟨1,8,.ptr 55,[.pointer none]⟩),
 (55,⟨2,16,.struct [(0,3),(1,4)],[.int .i64 0,.bool false]⟩),
 (59,⟨1,8,.map 3 83,[.map none]⟩),
 (62,⟨1,8,.func,[.nilFunc]⟩),
 (74,⟨256,256,.array 256 4,List.replicate 256 (.bool false)⟩),
 (75,⟨256,256,.array 256 4,List.replicate 256 (.bool false)⟩),
 (79,⟨1,8,.ptr 75,[.pointer none]⟩),
 (83,⟨1,24,.slice 85,[.slice none 0 0]⟩),
 (84,⟨1,8,.func,[.nilFunc]⟩),
 (85,⟨1,8,.func,[.nilFunc]⟩),
 (89,⟨1,8,.func,[.nilFunc]⟩),
 (108,⟨1,8,.func,[.nilFunc]⟩),
 (120,⟨1,24,.slice 5,[.slice none 0 0]⟩),
 (124,⟨1,24,.slice 130,[.slice none 0 0]⟩),
 (127,⟨1,24,.slice 39,[.slice none 0 0]⟩),
 (128,⟨1,24,.slice 184,[.slice none 0 0]⟩),
 (130,⟨2,32,.struct [(0,4),(1,128)],[.bool false,.slice none 0 0]⟩),
 (132,⟨1,24,.slice 137,[.slice none 0 0]⟩),
 (135,⟨1,24,.slice 199,[.slice none 0 0]⟩),
 (137,⟨2,32,.struct [(0,4),(1,135)],[.bool false,.slice none 0 0]⟩),
 (158,⟨1,8,.ptr 160,[.pointer none]⟩),
 (160,⟨2,32,.struct [(0,158),(1,120)],[.pointer none,.slice none 0 0]⟩),
 (162,⟨1,16,.iface,[.nilIface]⟩),
 (180,⟨1,8,.ptr 182,[.pointer none]⟩),
 (182,⟨2,24,.struct [(0,9),(1,3)],[.string ⟨#[]⟩,.int .i64 0]⟩),
 (184,⟨4,16,.struct [(0,4),(1,4),(2,5),(3,108)],[.bool false,.bool false,.int .u8 0,.nilFunc]⟩),
 (188,⟨2,16,.struct [(0,3),(1,3)],[.int .i64 0,.int .i64 0]⟩),
 (189,⟨1,8,.map 188 4,[.map none]⟩),
 (190,⟨1,24,.slice 188,[.slice none 0 0]⟩),
 (192,⟨1,8,.func,[.nilFunc]⟩),
 (193,⟨1,8,.func,[.nilFunc]⟩),
 (199,⟨258,258,.struct [(0,4),(1,4),(2,74)],List.replicate 258 (.bool false)⟩)]
theorem tab_ok : ∀ t i,(t,i) ∈ tab → TabOK Tryz.prog t i := by
 intro t i h
 simp only [tab,List.mem_cons,Prod.mk.injEq,List.not_mem_nil,or_false] at h
 rcases h with ⟨rfl,rfl⟩ | ⟨rfl,rfl⟩ | ⟨rfl,rfl⟩ | ⟨rfl,rfl⟩ | ⟨rfl,rfl⟩ | ⟨rfl,rfl⟩ | ⟨rfl,rfl⟩ | ⟨rfl,rfl⟩ | ⟨rfl,rfl⟩ | ⟨rfl,rfl⟩ | ⟨rfl,rfl⟩ | ⟨rfl,rfl⟩ | ⟨rfl,rfl⟩ | ⟨rfl,rfl⟩ | ⟨rfl,rfl⟩ | ⟨rfl,rfl⟩ | ⟨rfl,rfl⟩ | ⟨rfl,rfl⟩ | ⟨rfl,rfl⟩ | ⟨rfl,rfl⟩ | ⟨rfl,rfl⟩ | ⟨rfl,rfl⟩ | ⟨rfl,rfl⟩ | ⟨rfl,rfl⟩ | ⟨rfl,rfl⟩ | ⟨rfl,rfl⟩ | ⟨rfl,rfl⟩ | ⟨rfl,rfl⟩ | ⟨rfl,rfl⟩ | ⟨rfl,rfl⟩ | ⟨rfl,rfl⟩ | ⟨rfl,rfl⟩ | ⟨rfl,rfl⟩ | ⟨rfl,rfl⟩ | ⟨rfl,rfl⟩ | ⟨rfl,rfl⟩ | ⟨rfl,rfl⟩ | ⟨rfl,rfl⟩ | ⟨rfl,rfl⟩ | ⟨rfl,rfl⟩ | ⟨rfl,rfl⟩ | ⟨rfl,rfl⟩ | ⟨rfl,rfl⟩ | ⟨rfl,rfl⟩ | ⟨rfl,rfl⟩ | ⟨rfl,rfl⟩
 all_goals exact ⟨by kernel_rfl,by kernel_rfl,by kernel_rfl⟩
noncomputable def C : Ctx := ⟨Tryz.prog,tab,tab_ok,qryJ,4,rfl,160,5,qryJ_stable,[],⟨[],[],false,[],[],[]⟩⟩
end Qv

end

section
open Go Go.Proofs
namespace Qv
def peekF (s : Bytes) (n : Nat) : UInt8 × Bool := match s[n]? with
 | some c => (c,true)
 | none => (0,false)
def encP (s : Bytes) (n : Nat) : List AV := [.str s,.int .i64 n]
def enc2 (p : UInt8 × Bool) : AV := .tup [.int .u8 p.1.toNat,.bool p.2]
theorem idx_str {s : Bytes} {n : Int} {k : Nat} {c : UInt8} (hn : n = k) (h : s[k]? = some c) : s[n.toNat]? = some c := by
 subst hn
 simpa using h
theorem peek_ok (s : Bytes) (n i : Nat) (hs : s.length ≤ 2 ^ 40) (hn : n ≤ s.length + 1) (hi : i ≤ 1) : ObjTo C 233 (encP s n) [.int .i64 i] (fun r ys => r = enc2 (peekF s (n + i)) ∧ ys = encP s n) := by
 have hw : IntKind.i64.wrap ((n : Int) + (i : Int)) = ((n + i : Nat) : Int) := by rw [wrap64 (by omega) (by omega)]; omega
 refine objTo_of_evO ⟨[],[],false,[],[],[]⟩ [] Tryz.func233 rfl rfl rfl ?_
 refine ⟨.lex 11,by kernel_rfl,_,rfl,_,rfl,_,rfl,_,rfl,_,rfl,_,⟨_,hw,rfl⟩,_,rfl,_,rfl,_,rfl,_,rfl,_,rfl,?_⟩
 refine al_dec (fun h => ?_) (fun h => ?_)
 ·refine ⟨rfl,?_,rfl⟩
  have : s[n + i]? = none := List.getElem?_eq_none (by omega)
  simp only [peekF,this]
  rfl
 ·obtain ⟨c,hc⟩ : ∃ c,s[n + i]? = some c := ⟨_,List.getElem?_eq_getElem (by omega)⟩
  refine ⟨.lex 12,by kernel_rfl,_,rfl,_,rfl,_,rfl,_,rfl,_,rfl,_,rfl,_,rfl,_,rfl,_,rfl,_,⟨_,hw,rfl⟩,.p (.int .u8 c.toNat),⟨by omega,c,idx_str rfl hc,rfl⟩,_,rfl,?_⟩
  refine ⟨rfl,?_,rfl⟩
  simp only [peekF,hc]
  rfl
def plainK (s : Bytes) (n : Nat) : Nat := if s[n]? = some 92 then n + 1 else n
def plainF (s : Bytes) (n : Nat) : UInt8 × Bool × Nat := match s[plainK s n]? with
 | some c => (c,true,plainK s n + 1)
 | none => (0,false,plainK s n)
theorem plainF_none {s : Bytes} {n k : Nat} (hk : plainK s n = k) (h : ¬ k < s.length) : plainF s n = (0,false,k) := by
 have : s[k]? = none := List.getElem?_eq_none (by omega)
 simp only [plainF,hk,this]
theorem plainF_some {s : Bytes} {n k : Nat} {c : UInt8} (hk : plainK s n = k) (h : s[k]? = some c) : plainF s n = (c,true,k + 1) := by
 simp only [plainF,hk,h]
theorem plain_ok (s : Bytes) (n : Nat) (hs : s.length ≤ 2 ^ 40) (hn : n ≤ s.length) : ObjTo C 206 (encP s n) [] (fun r ys => r = enc2 ((plainF s n).1,(plainF s n).2.1) ∧ ys = encP s (plainF s n).2.2) := by
 have hw : IntKind.i64.wrap ((n : Int) + 1) = ((n + 1 : Nat) : Int) := by rw [wrap64 (by omega) (by omega)]; omega
 refine objTo_of_evO ⟨[],[],false,[],[],[]⟩ [3] Tryz.func206 rfl rfl rfl ?_
 by_cases hlt : n < s.length
 ·obtain ⟨c,hc⟩ : ∃ c,s[n]? = some c := ⟨_,List.getElem?_eq_getElem (by omega)⟩
  refine ⟨.lex 20,by kernel_rfl,_,rfl,_,rfl,_,rfl,_,rfl,_,rfl,_,rfl,_,rfl,_,rfl,_,rfl,.p (.bool true),⟨fun t ht => by rw [ht,decide_eq_true (by simpa using hlt)]⟩,_,rfl,_,rfl,_,rfl,_,rfl,_,rfl,_,rfl,_,rfl,_,rfl,_,rfl,.p (.int .u8 c.toNat),⟨by omega,c,idx_str rfl hc,rfl⟩,?_⟩
  refine al_eq (fun h => ?_) (fun h => ?_)
  ·have hk : plainK s n = n + 1 := by
    have : c = 92 := u8_eq h
    simp [plainK,hc,this]
   refine ⟨_,hw,?_⟩
   refine cutR 60 [(0,.ptr 999999 0)] [(999999,mapP (encP s (n + 1)))] rfl ⟨wR,trivial⟩ ⟨hO1 rfl,trivial⟩ ?_
   have hw1 : IntKind.i64.wrap ((((n + 1) : Nat) : Int) + 1) = (((n + 1) + 1 : Nat) : Int) := by rw [wrap64 (by omega) (by omega)]; omega
   have hw2 : IntKind.i64.wrap ((((n + 1) + 1 : Nat) : Int) - 1) = (((n + 1) : Nat) : Int) := by rw [wrap64 (by omega) (by omega)]; omega
   refine ⟨.lex 9,by kernel_rfl,_,rfl,_,rfl,_,rfl,_,rfl,_,rfl,_,rfl,_,rfl,_,rfl,_,rfl,?_⟩
   refine al_dec (fun hge => ?_) (fun hge => ?_)
   ·rw [plainF_none hk (by omega)]
    exact ⟨rfl,rfl,rfl⟩
   ·obtain ⟨d,hd⟩ : ∃ d,(s)[((n + 1) : Nat)]? = some d := ⟨_,List.getElem?_eq_getElem (by omega)⟩
    refine ⟨_,hw1,.lex 11,by kernel_rfl,_,rfl,_,rfl,_,rfl,_,rfl,_,rfl,_,rfl,_,rfl,_,rfl,_,⟨_,hw2,rfl⟩,.p (.int .u8 d.toNat),⟨by omega,d,idx_str rfl hd,rfl⟩,_,rfl,?_⟩
    rw [plainF_some hk hd]
    exact ⟨rfl,rfl,rfl⟩
  ·have hk : plainK s n = n := by
    have : c ≠ 92 := fun e => h (by rw [e]; rfl)
    simp [plainK,hc,this]
   refine cutR 60 [(0,.ptr 999999 0)] [(999999,mapP (encP s n))] rfl ⟨wR,trivial⟩ ⟨hO1 rfl,trivial⟩ ?_
   have hw1 : IntKind.i64.wrap (((n : Nat) : Int) + 1) = ((n + 1 : Nat) : Int) := by rw [wrap64 (by omega) (by omega)]; omega
   have hw2 : IntKind.i64.wrap (((n + 1 : Nat) : Int) - 1) = ((n : Nat) : Int) := by rw [wrap64 (by omega) (by omega)]; omega
   refine ⟨.lex 9,by kernel_rfl,_,rfl,_,rfl,_,rfl,_,rfl,_,rfl,_,rfl,_,rfl,_,rfl,_,rfl,?_⟩
   refine al_dec (fun hge => ?_) (fun hge => ?_)
   ·rw [plainF_none hk (by omega)]
    exact ⟨rfl,rfl,rfl⟩
   ·obtain ⟨d,hd⟩ : ∃ d,(s)[(n : Nat)]? = some d := ⟨_,List.getElem?_eq_getElem (by omega)⟩
    refine ⟨_,hw1,.lex 11,by kernel_rfl,_,rfl,_,rfl,_,rfl,_,rfl,_,rfl,_,rfl,_,rfl,_,rfl,_,⟨_,hw2,rfl⟩,.p (.int .u8 d.toNat),⟨by omega,d,idx_str rfl hd,rfl⟩,_,rfl,?_⟩
    rw [plainF_some hk hd]
    exact ⟨rfl,rfl,rfl⟩
 ·have hk : plainK s n = n := by
   have : s[n]? = none := List.getElem?_eq_none (by omega)
   simp [plainK,this]
  refine ⟨.lex 20,by kernel_rfl,_,rfl,_,rfl,_,rfl,_,rfl,_,rfl,_,rfl,_,rfl,_,rfl,_,rfl,.p (.bool false),⟨fun t ht => by rw [ht,decide_eq_false (by simpa using hlt)]⟩,_,rfl,?_⟩
  refine cutR 60 [(0,.ptr 999999 0)] [(999999,mapP (encP s n))] rfl ⟨wR,trivial⟩ ⟨hO1 rfl,trivial⟩ ?_
  have hw1 : IntKind.i64.wrap (((n : Nat) : Int) + 1) = ((n + 1 : Nat) : Int) := by rw [wrap64 (by omega) (by omega)]; omega
  have hw2 : IntKind.i64.wrap (((n + 1 : Nat) : Int) - 1) = ((n : Nat) : Int) := by rw [wrap64 (by omega) (by omega)]; omega
  refine ⟨.lex 9,by kernel_rfl,_,rfl,_,rfl,_,rfl,_,rfl,_,rfl,_,rfl,_,rfl,_,rfl,_,rfl,?_⟩
  refine al_dec (fun hge => ?_) (fun hge => ?_)
  ·rw [plainF_none hk (by omega)]
   exact ⟨rfl,rfl,rfl⟩
  ·obtain ⟨d,hd⟩ : ∃ d,(s)[(n : Nat)]? = some d := ⟨_,List.getElem?_eq_getElem (by omega)⟩
   refine ⟨_,hw1,.lex 11,by kernel_rfl,_,rfl,_,rfl,_,rfl,_,rfl,_,rfl,_,rfl,_,rfl,_,rfl,_,⟨_,hw2,rfl⟩,.p (.int .u8 d.toNat),⟨by omega,d,idx_str rfl hd,rfl⟩,_,rfl,?_⟩
   rw [plainF_some hk hd]
   exact ⟨rfl,rfl,rfl⟩
end Qv

end

section
open Go Go.Proofs
namespace Qv
theorem drop_set {set : List Bool} {m : Nat} {b : Bool} (h : set[m]? = some b) : dropN (m * 1) (set.map AV.bool) = .bool b :: (set.drop (m + 1)).map AV.bool := by
 have hm := (List.getElem?_eq_some_iff.1 h).1
 have hb := (List.getElem?_eq_some_iff.1 h).2
 rw [Nat.mul_one,dropN_eq,← List.map_drop,List.drop_eq_getElem_cons hm,hb]
 rfl
theorem any_ok (c : UInt8) : CallsTo C 204 [.int .u8 c.toNat] (fun r => r = .val (.bool (c != 47))) := by
 refine cTo' Tryz.func204 rfl rfl rfl ?_
 refine al_ne (fun h => ?_) (fun h => ?_)
 ·have : (c != 47) = true := by
   simp only [bne_iff_ne,ne_eq]
   intro e; exact h (by rw [e]; rfl)
  rw [this]; rfl
 ·have : c = 47 := u8_eq h
  rw [this]; rfl
theorem lit_ok (c d : UInt8) : CallsTo C 207 [.int .u8 c.toNat,.imp [.int .u8 d.toNat]] (fun r => r = .val (.bool (c == d))) := by
 refine cTo' Tryz.func207 rfl rfl rfl ?_
 refine al_eq (fun h => ?_) (fun h => ?_)
 ·have : c = d := u8_eq h
  rw [this]
  show Ret.val (.bool true) = _
  simp
 ·have : (c == d) = false := by
   simp only [beq_eq_false_iff_ne,ne_eq]
   intro e; exact h (by rw [e])
  rw [this]; rfl
def clsB (set : List Bool) (neg : Bool) (c : UInt8) : Bool := c != 47 && (set.getD c.toNat false != neg)
theorem cls_ok (c : UInt8) (set : List Bool) (neg : Bool) (hset : set.length = 256) : CallsTo C 234 [.int .u8 c.toNat,.imp (set.map AV.bool),.imp [.bool neg]] (fun r => r = .val (.bool (clsB set neg c))) := by
 refine cTo' Tryz.func234 rfl rfl rfl ?_
 have hc : c.toNat < 256 := c.toNat_lt
 obtain ⟨b,hb⟩ : ∃ b,set[c.toNat]? = some b := ⟨_,List.getElem?_eq_getElem (by omega)⟩
 have hg : set.getD c.toNat false = b := by simp [List.getD,hb]
 by_cases h47 : c = 47
 ·subst h47
  refine ⟨.lex 7,by kernel_rfl,_,rfl,.p (.bool false),⟨fun t ht => by rw [ht]; rfl⟩,_,rfl,?_⟩
  rfl
 ·have hne : ((c.toNat : Int) != ((47 : UInt8).toNat : Int)) = true := by
   simp only [bne_iff_ne,ne_eq]
   intro e; exact h47 (u8_eq e)
  refine ⟨.lex 7,by kernel_rfl,_,rfl,.p (.bool true),⟨fun t ht => by rw [ht]; exact congrArg _ (congrArg _ hne)⟩,_,rfl,_,rfl,_,⟨c.toNat,rfl,hc,_,drop_set hb,rfl⟩,_,rfl,_,rfl,?_⟩
  refine ⟨fun t ht => ?_⟩
  subst ht
  have : clsB set neg c = !(b == neg) := by
   have h1 : (c != 47) = true := by simpa using h47
   simp only [clsB,hg,h1,Bool.true_and]; rfl
  rw [this]
  rfl
end Qv

end

section
open Go Go.Proofs
namespace Qv
def clsFn (set : List Bool) (neg : Bool) : AV := .fn (.func 234) [] [.imp (set.map AV.bool),.imp [.bool neg]]
def someC (set : List Bool) (neg : Bool) : Bool := (List.range 256).any fun i => clsB set neg (UInt8.ofNat i)
theorem some_ok (set : List Bool) (neg : Bool) (hset : set.length = 256) : CallsTo C 235 [clsFn set neg] (fun r => r = .val (.bool (someC set neg))) := by
 refine cTo' Tryz.func235 rfl rfl rfl ?_
 refine loopR 12 (fun k : Nat => [(0,.p (clsFn set neg)),(4,.p (.int .i64 k))]) (fun _ => []) (fun k => k ≤ 256 ∧ ∀ i,i < k → clsB set neg (UInt8.ofNat i) = false) (fun k => 256 - k) 0 ⟨Nat.zero_le _,fun i hi => absurd hi (by omega)⟩ rfl ⟨wR,wR,trivial⟩ trivial ?_
 rintro k ⟨hk,hb⟩
 refine al_dec (fun hlt => ?_) (fun hge => ?_)
 ·have hlt : k < 256 := by omega
  have hw : IntKind.u8.wrap (k : Int) = ((UInt8.ofNat k).toNat : Int) := by
   rw [wrapU8 (by omega) (by omega)]
   have : (UInt8.ofNat k).toNat = k := by simp; omega
   rw [this]
  refine ⟨_,hw,_,cls_ok (UInt8.ofNat k) set neg hset,fun r hr => ?_⟩
  subst hr
  cases hq : clsB set neg (UInt8.ofNat k) with
  | true =>
    have : someC set neg = true := by
     unfold someC
     rw [List.any_eq_true]
     exact ⟨k,by simpa using hlt,hq⟩
    show Ret.val (.bool true) = _
    rw [this]
  | false =>
    refine ⟨((k + 1 : Nat) : Int),by rw [wrap64 (by omega) (by omega)]; omega,roundR (k + 1) ⟨hlt,fun i hi => ?_⟩ (by omega) rfl ⟨wR,wR,trivial⟩ trivial⟩
    by_cases hik : i = k
    ·rw [hik]; exact hq
    ·exact hb i (by omega)
 ·have : someC set neg = false := by
   unfold someC
   rw [List.any_eq_false]
   intro i hi
   rw [hb i (by have := List.mem_range.1 hi; omega)]
   simp
  show Ret.val (.bool false) = _
  rw [this]
end Qv

end

section
open Go Go.Proofs
namespace Qv
def fillN (set : List Bool) : Nat → Nat → List Bool
 | _,0 => set
 | i,c + 1 => fillN (set.set i true) (i + 1) c
def hiF (s : Bytes) (lo : UInt8) (ok : Bool) (n : Nat) : UInt8 × Bool × Nat :=
 if ok = true ∧ (peekF s n).1 = 45 ∧ (peekF s (n + 1)).2 = true ∧ (peekF s (n + 1)).1 ≠ 93 then plainF s (n + 1) else (lo,ok,n)
def clsGo (s : Bytes) : Nat → Nat → List Bool → Nat → Option (List Bool × Nat × Nat)
 | 0,_,_,_ => none
 | f + 1,n,set,k =>
   match s[n]? with
   | none => none
   | some c => if c = 93 then some (set,k,n + 1) else
     let p := plainF s n
     let h := hiF s p.1 p.2.1 p.2.2
     if h.2.1 = false ∨ h.1.toNat < p.1.toNat then none else clsGo s f h.2.2 (fillN set p.1.toNat (h.1.toNat + 1 - p.1.toNat)) (k + 1)
def negF (s : Bytes) (n : Nat) : Bool := (peekF s n).1 == 33
def clsF (s : Bytes) (n : Nat) : Option (List Bool × Bool × Bool × Nat) :=
 match clsGo s (s.length + 1) (if negF s n then n + 1 else n) (List.replicate 256 false) 0 with
 | none => none
 | some (set,k,n') => some (set,negF s n,(decide (0 < k) && someC set (negF s n)),n')
theorem fillN_length : ∀ (c i : Nat) (set : List Bool),(fillN set i c).length = set.length
 | 0,_,_ => rfl
 | c + 1,i,set => by rw [fillN,fillN_length c]; simp
theorem fillN_next : ∀ (c i : Nat) (set : List Bool),fillN set i (c + 1) = (fillN set i c).set (i + c) true
 | 0,i,set => rfl
 | c + 1,i,set => by
   rw [fillN,fillN_next c (i + 1),fillN,show i + 1 + c = i + (c + 1) from by omega]
theorem plainF_le (s : Bytes) (n : Nat) (hn : n ≤ s.length) : n ≤ (plainF s n).2.2 ∧ (plainF s n).2.2 ≤ s.length ∧ ((plainF s n).2.1 = true → n < (plainF s n).2.2) := by
 have hk : n ≤ plainK s n ∧ plainK s n ≤ s.length := by
  unfold plainK
  split
  ·rename_i h
   have := (List.getElem?_eq_some_iff.1 h).1
   omega
  ·omega
 unfold plainF
 split
 ·rename_i c h
  have := (List.getElem?_eq_some_iff.1 h).1
  exact ⟨by simp only; omega,by simp only; omega,fun _ => by simp only; omega⟩
 ·exact ⟨by simp only; omega,by simp only; omega,fun h => by cases h⟩
theorem peekF_some {s : Bytes} {n : Nat} {c : UInt8} (h : s[n]? = some c) : peekF s n = (c,true) := by simp [peekF,h]
theorem peekF_none {s : Bytes} {n : Nat} (h : s[n]? = none) : peekF s n = (0,false) := by simp [peekF,h]
theorem peekF_lt {s : Bytes} {n : Nat} (h : (peekF s n).2 = true) : n < s.length := by
 unfold peekF at h
 split at h
 ·rename_i c hc; exact (List.getElem?_eq_some_iff.1 hc).1
 ·cases h
theorem hiF_le (s : Bytes) (lo : UInt8) (ok : Bool) (n : Nat) (hn : n ≤ s.length) : n ≤ (hiF s lo ok n).2.2 ∧ (hiF s lo ok n).2.2 ≤ s.length := by
 unfold hiF
 split
 ·rename_i h
  have h1 := peekF_lt h.2.2.1
  have := plainF_le s (n + 1) (by omega)
  omega
 ·exact ⟨Nat.le_refl _,hn⟩
theorem hiF_ok {s : Bytes} {lo : UInt8} {ok : Bool} {n : Nat} (h : (hiF s lo ok n).2.1 = true) : ok = true := by
 unfold hiF at h
 split at h
 ·rename_i h1; exact h1.1
 ·exact h
end Qv

end

section
open Go Go.Proofs
namespace Qv
def zero109 : List AV := [.bool false,.bool false,.int .u8 0,.nilf]
def encSet (set : List Bool) : List FV := mapP (set.map AV.bool)
def clsR (s : Bytes) : Option (List Bool × Bool × Bool × Nat) → AV → List AV → Prop
 | none,r,ys => r = .tup [.agg zero109,.bool false] ∧ ∃ m,m ≤ s.length ∧ ys = encP s m
 | some (set,neg,ok,n'),r,ys => r = .tup [.agg [.bool false,.bool false,.int .u8 0,clsFn set neg],.bool ok] ∧ ys = encP s n'
abbrev clsSlots (k : Nat) : List (Nat × FV) := [(0,.ptr 999999 0),(2,.ptr 2 0),(4,.ptr 4 0),(7,.ptr 7 0),(3,.p (.bool false)),(8,.p (.int .i64 k))]
abbrev clsS (k : Nat) (more : List (Nat × FV)) : List (Nat × FV) := (0,.ptr 999999 0) :: (2,.ptr 2 0) :: (4,.ptr 4 0) :: (7,.ptr 7 0) :: (3,.p (.bool false)) :: (8,.p (.int .i64 k)) :: more
abbrev clsObjs (s : Bytes) (n : Nat) (set : List Bool) (neg : Bool) : List (Nat × List FV) := [(2,mapP zero109),(999999,mapP (encP s n)),(4,encSet set),(7,[.p (.bool neg)])]
theorem encSet_append (a b : List Bool) : encSet (a ++ b) = encSet a ++ encSet b := by
 simp [encSet,mapP_eq]
theorem encSet_length (a : List Bool) : (encSet a).length = a.length := by
 simp [encSet,mapP_eq]
theorem encSet_split {set : List Bool} {i : Nat} (h : i < set.length) : encSet set = encSet (set.take i) ++ ([.p (.bool set[i])] ++ encSet (set.drop (i + 1))) := by
 have : set = set.take i ++ ([set[i]] ++ set.drop (i + 1)) := by
  rw [List.singleton_append,← List.drop_eq_getElem_cons h,List.take_append_drop]
 conv => lhs; rw [this,encSet_append,encSet_append]
 rfl
theorem encSet_set {set : List Bool} {i : Nat} {b : Bool} (h : i < set.length) : encSet (set.take i) ++ ([.p (.bool b)] ++ encSet (set.drop (i + 1))) = encSet (set.set i b) := by
 have : set.set i b = set.take i ++ ([b] ++ set.drop (i + 1)) := by
  rw [List.set_eq_take_append_cons_drop,if_pos h]
  rfl
 rw [this,encSet_append,encSet_append]
 rfl
theorem frz_one {d : Nat} {ds : List Nat} {K : ASt → Prop} {S : ASt} {cells : List FV} {ys : List AV} (h1 : getO S.objs d = some cells) (h2 : FV.toAVs cells = some ys) (h3 : allOneA ys = true) (h : evFrz ds K (S.frz d ys)) : evFrz (d :: ds) K S := by
 simp only [evFrz,h1,h2,h3]
 exact h
theorem toAVs_mapP (xs : List AV) : FV.toAVs (mapP xs) = some xs := by
 induction xs with
 | nil => rfl
 | cons x xs ih => simp [mapP,FV.toAVs,FV.toAV,ih]
theorem allOne_set (set : List Bool) : allOneA (set.map AV.bool) = true := by
 induction set with
 | nil => rfl
 | cons b set ih => simp only [List.map_cons,allOneA,AV.one]; exact ih
structure Hid (T : Prop) : Prop where
 out : T
theorem share {T G : Prop} (h : Hid T → G) (t : T) : G := h ⟨t⟩
def clsE (s : Bytes) (neg : Bool) : Option (List Bool × Nat × Nat) → Option (List Bool × Bool × Bool × Nat)
 | none => none
 | some (set,k,n') => some (set,neg,(decide (0 < k) && someC set neg),n')
theorem clsF_eq (s : Bytes) (n : Nat) : clsF s n = clsE s (negF s n) (clsGo s (s.length + 1) (if negF s n then n + 1 else n) (List.replicate 256 false) 0) := by
 unfold clsF clsE
 cases clsGo s (s.length + 1) (if negF s n then n + 1 else n) (List.replicate 256 false) 0 <;> rfl
set_option maxRecDepth 100000 in
theorem class_ok (s : Bytes) (n : Nat) (hs : s.length ≤ 2 ^ 30) (hn : n ≤ s.length) : ObjTo C 205 (encP s n) [] (clsR s (clsF s n)) := by
 refine objTo_of_evO ⟨[],[],false,[],[],[]⟩ [6,13,16,19] Tryz.func205 rfl rfl rfl ?_
 have hw : IntKind.i64.wrap ((n : Int) + 1) = ((n + 1 : Nat) : Int) := by rw [wrap64 (by omega) (by omega)]; omega
 refine .inr (.inr ⟨_,(peek_ok s n 0 (by omega) (by omega) (by omega)).opn,?_⟩)
 rintro r ys ⟨rfl,rfl⟩
 rw [clsF_eq]
 refine share (T := ?T) (fun H => ?main) ?rest
 case main =>
  obtain ⟨neg,e1⟩ : ∃ neg,negF s n = neg := ⟨_,rfl⟩
  obtain ⟨n0,e0⟩ : ∃ n0,(if neg = true then n + 1 else n) = n0 := ⟨_,rfl⟩
  rw [e1,e0]
  refine al_eq (fun h => ?_) (fun h => ?_)
  ·have h0 : (peekF s n).1 = 33 := u8_eq h
   have hneg : neg = true := by rw [← e1]; simp [negF,h0]
   have hlt : n < s.length := by
    refine peekF_lt ?_
    cases hq : s[n]? with
    | none => rw [peekF_none hq] at h0; exact absurd h0 (by decide)
    | some c => rw [peekF_some hq]
   refine ⟨_,hw,?_⟩
   have hn0 : n0 = n + 1 := by rw [← e0,if_pos hneg]
   have hle : n0 ≤ s.length := by omega
   refine cutR 121 (clsSlots 0 |>.take 5) (clsObjs s n0 (List.replicate 256 false) neg) rfl ⟨wR,wR,wR,wR,wR,trivial⟩ ⟨hO1 rfl,hO1 (by rw [hn0]; rfl),hO1 (by kernel_rfl),hO1 (by rw [hneg]; rfl),trivial⟩ ?_
   clear hneg e0 e1 hn0 h h0 hlt
   revert n0 neg
   exact H.out
  ·have hneg : neg = false := by
    rw [← e1]
    simp only [negF,beq_eq_false_iff_ne,ne_eq]
    intro e
    exact h (by rw [Nat.add_zero,e]; rfl)
   have hn0 : n0 = n := by rw [← e0,hneg]; rfl
   have hle : n0 ≤ s.length := by omega
   refine cutR 121 (clsSlots 0 |>.take 5) (clsObjs s n0 (List.replicate 256 false) neg) rfl ⟨wR,wR,wR,wR,wR,trivial⟩ ⟨hO1 rfl,hO1 (by rw [hn0]; rfl),hO1 (by kernel_rfl),hO1 (by rw [hneg]; rfl),trivial⟩ ?_
   clear hneg e0 e1 hn0 h
   revert n0 neg
   exact H.out
 case rest =>
  intro neg n0 hle
  generalize hX : clsGo s (s.length + 1) n0 (List.replicate 256 false) 0 = X
  refine loopR 121 (fun x : Nat × List Bool × Nat => clsSlots x.2.2) (fun x => clsObjs s x.1 x.2.1 neg) (fun x => x.1 ≤ s.length ∧ x.2.1.length = 256 ∧ x.2.2 ≤ x.1 ∧ ∃ f,s.length + 1 - x.1 ≤ f ∧ clsGo s f x.1 x.2.1 x.2.2 = X) (fun x => s.length + 1 - x.1)
   (n0,List.replicate 256 false,0) ⟨hle,List.length_replicate,Nat.zero_le _,s.length + 1,by simp only; omega,hX⟩ rfl ⟨wR,wR,wR,wR,wR,wR,trivial⟩ ⟨hO1 rfl,hO1 rfl,hO1 rfl,hO1 rfl,trivial⟩ ?_
  clear hX hle n0
  rintro ⟨m,set,k⟩ ⟨hm,hset,hk,f,hf,hX⟩
  have hm : m ≤ s.length := hm
  have hset : set.length = 256 := hset
  have hk : k ≤ m := hk
  have hf : s.length + 1 - m ≤ f := hf
  have hX : clsGo s f m set k = X := hX
  obtain ⟨f,rfl⟩ : ∃ f',f = f' + 1 := ⟨f - 1,by omega⟩
  rcases hq : s[m]? with _ | c
  ·have hp : peekF s (m + 0) = (0,false) := peekF_none hq
   refine .inr (.inr ⟨_,(peek_ok s m 0 (by omega) (by omega) (by omega)).opn,?_⟩)
   rintro r ys ⟨hr,rfl⟩
   rw [hp] at hr
   subst hr
   refine al_not ?_
   have hx : X = none := by rw [← hX]; simp only [clsGo,hq]
   rw [hx]
   exact ⟨rfl,rfl,m,hm,rfl⟩
  have hm1 : m < s.length := (List.getElem?_eq_some_iff.1 hq).1
  have hp : peekF s (m + 0) = (c,true) := peekF_some hq
  have hw1 : IntKind.i64.wrap ((m : Int) + 1) = ((m + 1 : Nat) : Int) := by rw [wrap64 (by omega) (by omega)]; omega
  refine .inr (.inr ⟨_,(peek_ok s m 0 (by omega) (by omega) (by omega)).opn,?_⟩)
  rintro r ys ⟨hr,rfl⟩
  rw [hp] at hr
  subst hr
  refine al_not ?_
  refine al_eq (fun h93 => ?_) (fun h93 => ?_)
  ·have hc : c = 93 := u8_eq h93
   have hx : X = some (set,k,m + 1) := by rw [← hX]; simp only [clsGo,hq,hc,if_true]
   rw [hx]
   refine ⟨_,hw1,?_⟩
   refine ⟨[4,7],frz_one (cells := encSet set) (ys := set.map AV.bool) rfl (toAVs_mapP _) (allOne_set _) (frz_one (cells := [.p (.bool neg)]) (ys := [.bool neg]) rfl rfl rfl ?_)⟩
   refine ⟨none,?_⟩
   refine al_dec (fun hk0 => ?_) (fun hk0 => ?_)
   ·refine ⟨_,(some_ok set neg hset).opn,fun r hr => ?_⟩
    subst hr
    have : (decide (0 < k) && someC set neg) = someC set neg := by
     have hk0 : 0 < (k : Int) := hk0
     have : decide (0 < k) = true := by simp; omega
     rw [this,Bool.true_and]
    simp only [clsE,this]
    exact ⟨rfl,rfl,rfl⟩
   ·have : (decide (0 < k) && someC set neg) = false := by
     have hk0 : ¬ 0 < (k : Int) := hk0
     have : decide (0 < k) = false := by simp; omega
     rw [this,Bool.false_and]
    simp only [clsE,this]
    exact ⟨rfl,rfl,rfl⟩
  ·have hc : c ≠ 93 := fun e => h93 (by rw [e]; rfl)
   refine .inr (.inr ⟨_,(plain_ok s m (by omega) hm).opn,?_⟩)
   rintro r ys ⟨hr,rfl⟩
   have hple := plainF_le s m hm
   obtain ⟨lo,ok,n1,hpl⟩ : ∃ lo ok n1,plainF s m = (lo,ok,n1) := ⟨_,_,_,rfl⟩
   rw [hpl] at hple hr ⊢
   subst hr
   have hn1 : n1 ≤ s.length := hple.2.1
   have hmn1 : m ≤ n1 := hple.1
   have hok1 : ok = true → m < n1 := hple.2.2
   refine cutR 121 (clsS k [(11,.p (.int .u8 lo.toNat)),(12,.p (.bool ok))]) (clsObjs s n1 set neg) rfl ⟨wR,wR,wR,wR,wR,wR,wR,wR,trivial⟩ ⟨hO1 rfl,hO1 rfl,hO1 rfl,hO1 rfl,trivial⟩ ?_
   obtain ⟨mid,mok,hmid⟩ : ∃ mid mok,peekF s (n1 + 0) = (mid,mok) := ⟨_,_,rfl⟩
   obtain ⟨nx,two,hnx⟩ : ∃ nx two,peekF s (n1 + 1) = (nx,two) := ⟨_,_,rfl⟩
   refine .inr (.inr ⟨_,(peek_ok s n1 0 (by omega) (by omega) (by omega)).opn,?_⟩)
   rintro r ys ⟨hr,rfl⟩
   rw [hmid] at hr
   subst hr
   refine .inr (.inr ⟨_,(peek_ok s n1 1 (by omega) (by omega) (by omega)).opn,?_⟩)
   rintro r ys ⟨hr,rfl⟩
   rw [hnx] at hr
   subst hr
   refine cutR 121 (clsS k [(11,.p (.int .u8 lo.toNat)),(12,.p (.bool ok)),(13,.p (.int .u8 lo.toNat)),(14,.p (.int .u8 mid.toNat)),(16,.p (.int .u8 nx.toNat)),(17,.p (.bool two))]) (clsObjs s n1 set neg) rfl
    ⟨wR,wR,wR,wR,wR,wR,wR,wR,wR,wR,wR,wR,trivial⟩ ⟨hO1 rfl,hO1 rfl,hO1 rfl,hO1 rfl,trivial⟩ ?_
   rw [Nat.add_zero] at hmid
   have hw2 : IntKind.i64.wrap ((n1 : Int) + 1) = ((n1 + 1 : Nat) : Int) := by rw [wrap64 (by omega) (by omega)]; omega
   refine share (T := ?T2) (fun H => ?m2) ?r2
   case m2 =>
    refine ⟨none,?_⟩
    by_cases hok : ok = true
    ·rw [hok]
     refine al_eq (fun h45 => ?_) (fun h45 => ?_)
     ·have hc45 : mid = 45 := u8_eq h45
      by_cases htwo : two = true
      ·rw [htwo]
       refine al_ne (fun hn93 => ?_) (fun hn93 => ?_)
       ·have hx93 : nx ≠ 93 := fun e => hn93 (by rw [e]; rfl)
        have hlt1 : n1 + 1 < s.length := peekF_lt (by rw [hnx]; exact htwo)
        refine ⟨_,hw2,?_⟩
        refine .inr (.inr ⟨_,(plain_ok s (n1 + 1) (by omega) (by omega)).opn,?_⟩)
        rintro r ys ⟨hr,rfl⟩
        obtain ⟨hi,ok2,n2,hh⟩ : ∃ hi ok2 n2,hiF s lo ok n1 = (hi,ok2,n2) := ⟨_,_,_,rfl⟩
        have hp2 : plainF s (n1 + 1) = (hi,ok2,n2) := by
         rw [← hh]
         unfold hiF
         rw [hmid,hnx,if_pos ⟨hok,hc45,htwo,hx93⟩]
        rw [hp2] at hr ⊢
        subst hr
        refine cutR 121 (clsS k [(11,.p (.int .u8 lo.toNat)),(12,.p (.bool ok2)),(13,.p (.int .u8 hi.toNat))]) (clsObjs s n2 set neg) rfl ⟨wR,wR,wR,wR,wR,wR,wR,wR,wR,trivial⟩ ⟨hO1 rfl,hO1 rfl,hO1 rfl,hO1 rfl,trivial⟩ ?_
        clear hp2
        revert hi ok2 n2
        exact H.out
       ·have hx93 : nx = 93 := u8_eq hn93
        have hh : hiF s lo ok n1 = (lo,true,n1) := by
         unfold hiF
         rw [hmid,hnx,if_neg (fun e => e.2.2.2 hx93),hok]
        refine cutR 121 (clsS k [(11,.p (.int .u8 lo.toNat)),(12,.p (.bool true)),(13,.p (.int .u8 lo.toNat))]) (clsObjs s n1 set neg) rfl ⟨wR,wR,wR,wR,wR,wR,wR,wR,wR,trivial⟩ ⟨hO1 rfl,hO1 rfl,hO1 rfl,hO1 rfl,trivial⟩ ?_
        exact H.out lo true n1 hh
      ·have htwo : two = false := by simpa using htwo
       rw [htwo]
       have hh : hiF s lo ok n1 = (lo,true,n1) := by
        unfold hiF
        rw [hmid,hnx,htwo,if_neg (fun e => by cases e.2.2.1),hok]
       refine cutR 121 (clsS k [(11,.p (.int .u8 lo.toNat)),(12,.p (.bool true)),(13,.p (.int .u8 lo.toNat))]) (clsObjs s n1 set neg) rfl ⟨wR,wR,wR,wR,wR,wR,wR,wR,wR,trivial⟩ ⟨hO1 rfl,hO1 rfl,hO1 rfl,hO1 rfl,trivial⟩ ?_
       exact H.out lo true n1 hh
     ·have hc45 : mid ≠ 45 := fun e => h45 (by rw [e]; rfl)
      have hh : hiF s lo ok n1 = (lo,true,n1) := by
       unfold hiF
       rw [hmid,hnx,if_neg (fun e => hc45 e.2.1),hok]
      refine cutR 121 (clsS k [(11,.p (.int .u8 lo.toNat)),(12,.p (.bool true)),(13,.p (.int .u8 lo.toNat))]) (clsObjs s n1 set neg) rfl ⟨wR,wR,wR,wR,wR,wR,wR,wR,wR,trivial⟩ ⟨hO1 rfl,hO1 rfl,hO1 rfl,hO1 rfl,trivial⟩ ?_
      exact H.out lo true n1 hh
    ·have hok : ok = false := by simpa using hok
     rw [hok]
     have hh : hiF s lo ok n1 = (lo,false,n1) := by
      unfold hiF
      rw [hmid,hnx,if_neg (fun e => by rw [hok] at e; cases e.1),hok]
     refine cutR 121 (clsS k [(11,.p (.int .u8 lo.toNat)),(12,.p (.bool false)),(13,.p (.int .u8 lo.toNat))]) (clsObjs s n1 set neg) rfl ⟨wR,wR,wR,wR,wR,wR,wR,wR,wR,trivial⟩ ⟨hO1 rfl,hO1 rfl,hO1 rfl,hO1 rfl,trivial⟩ ?_
     exact H.out lo false n1 hh
   case r2 =>
    intro hi ok2 n2 hh
    have hle2 := hiF_le s lo ok n1 hn1
    have hok2 := hiF_ok (s := s) (lo := lo) (ok := ok) (n := n1)
    rw [hh] at hle2 hok2
    have hle3 : n1 ≤ n2 := hle2.1
    have hle4 : n2 ≤ s.length := hle2.2
    refine ⟨none,?_⟩
    cases ok2 with
    | false =>
      refine al_not ?_
      have hx : X = none := by
       rw [← hX]
       simp only [clsGo,hq,hc,if_false,hpl,hh,true_or,if_true]
      rw [hx]
      exact ⟨rfl,rfl,n2,hle4,rfl⟩
    | true =>
      have hmn2 : m < n2 := by have := hok1 (hok2 rfl); omega
      refine al_not ?_
      refine al_dec (fun hgt => ?_) (fun hgt => ?_)
      ·have hlt2 : hi.toNat < lo.toNat := by omega
       have hx : X = none := by
        rw [← hX]
        simp only [clsGo,hq,hc,if_false,hpl,hh,hlt2,or_true,if_true]
       rw [hx]
       exact ⟨rfl,rfl,n2,hle4,rfl⟩
      ·have hge2 : ¬ hi.toNat < lo.toNat := by omega
       have hX2 : clsGo s f n2 (fillN set lo.toNat (hi.toNat + 1 - lo.toNat)) (k + 1) = X := by
        rw [← hX]
        simp only [clsGo,hq,hc,if_false,hpl,hh,hge2,Bool.true_eq_false,or_self]
       have hhi : hi.toNat < 256 := hi.toNat_lt
       refine ⟨((lo.toNat + 0 : Nat) : Int),by rw [wrap64 (by omega) (by omega)]; rfl,?_⟩
       refine loopR 121 (fun j : Nat => clsS k [(13,.p (.int .u8 hi.toNat)),(18,.p (.int .i64 ((lo.toNat + j : Nat) : Int)))]) (fun j => clsObjs s n2 (fillN set lo.toNat j) neg) (fun j => j ≤ hi.toNat + 1 - lo.toNat) (fun j => hi.toNat + 1 - lo.toNat - j) 0 (Nat.zero_le _) rfl
        ⟨wR,wR,wR,wR,wR,wR,wR,wR,trivial⟩ ⟨hO1 rfl,hO1 rfl,hO1 rfl,hO1 rfl,trivial⟩ ?_
       intro j hj
       have hj : j ≤ hi.toNat + 1 - lo.toNat := hj
       have hwh : IntKind.i64.wrap ((hi.toNat : Nat) : Int) = ((hi.toNat : Nat) : Int) := wrap64 (by omega) (by omega)
       refine ⟨_,hwh,?_⟩
       refine al_dec (fun hlej => ?_) (fun hlej => ?_)
       ·have hlej : ((lo.toNat + j : Nat) : Int) ≤ ((hi.toNat : Nat) : Int) := hlej
        have hlen : (fillN set lo.toNat j).length = 256 := by rw [fillN_length]; exact hset
        refine ⟨lo.toNat + j,rfl,by omega,true,_,rfl,?_⟩
        have hij : lo.toNat + j < (fillN set lo.toNat j).length := by omega
        refine ⟨_,_,_,encSet_split hij,by rw [encSet_length,List.length_take,Nat.min_eq_left (by omega)]; show lo.toNat + j = 0 + (lo.toNat + j) * 1; omega,_,encSet_set hij,?_⟩
        have hwj : IntKind.i64.wrap (((lo.toNat + j : Nat) : Int) + 1) = ((lo.toNat + (j + 1) : Nat) : Int) := by rw [wrap64 (by omega) (by omega)]; omega
        refine ⟨_,hwj,?_⟩
        refine roundR (j + 1) (by show j + 1 ≤ _; omega) (by show _ < _; omega) rfl ⟨wR,wR,wR,wR,wR,wR,wR,wR,trivial⟩ ⟨hO1 rfl,hO1 rfl,hO1 (by rw [fillN_next]; rfl),hO1 rfl,trivial⟩
       ·have hlej : ¬ ((lo.toNat + j : Nat) : Int) ≤ ((hi.toNat : Nat) : Int) := hlej
        have hje : j = hi.toNat + 1 - lo.toNat := by omega
        refine ⟨((k + 1 : Nat) : Int),by rw [wrap64 (by omega) (by omega)]; omega,?_⟩
        refine roundR (n2,fillN set lo.toNat (hi.toNat + 1 - lo.toNat),k + 1) ⟨hle4,by simp only [fillN_length]; exact hset,by show k + 1 ≤ n2; omega,f,by show s.length + 1 - n2 ≤ f; omega,hX2⟩ (by show s.length + 1 - n2 < s.length + 1 - m; omega) rfl
         ⟨wR,wR,wR,wR,wR,wR,trivial⟩ ⟨hO1 rfl,hO1 rfl,hO1 (by rw [← hje]; rfl),hO1 rfl,trivial⟩
end Qv

end

section
open Go Go.Proofs
namespace Qv
inductive Atom where
 | bad
 | star
 | any
 | lit (c : UInt8)
 | cls (set : List Bool) (neg : Bool)
def Atom.enc : Atom → List AV
 | .bad => zero109
 | .star => [.bool true,.bool false,.int .u8 0,.nilf]
 | .any => [.bool false,.bool false,.int .u8 0,.fn (.func 204) [] []]
 | .lit c => [.bool false,.bool true,.int .u8 c.toNat,.fn (.func 207) [] [.imp [.int .u8 c.toNat]]]
 | .cls set neg => [.bool false,.bool false,.int .u8 0,clsFn set neg]
def Atom.fine : Atom → Prop
 | .cls set _ => set.length = 256
 | .bad => False
 | _ => True
def oneF (s : Bytes) (n : Nat) : Option (Atom × Nat) :=
 match s[n]? with
 | none => none
 | some c =>
   if c = 42 then some (.star,n + 1)
   else if c = 63 then some (.any,n + 1)
   else if c = 91 then match clsF s (n + 1) with
    | some (set,neg,true,n') => some (.cls set neg,n')
    | _ => none
   else match plainF s n with
    | (d,true,n') => some (.lit d,n')
    | _ => none
def oneR (s : Bytes) : Option (Atom × Nat) → AV → List AV → Prop
 | none,r,ys => ∃ a : Atom,r = .tup [.agg a.enc,.bool false] ∧ ∃ m,m ≤ s.length ∧ ys = encP s m
 | some (a,n'),r,ys => r = .tup [.agg a.enc,.bool true] ∧ ys = encP s n'
theorem clsGo_le (s : Bytes) : ∀ (f n : Nat) (set : List Bool) (k : Nat) (set' : List Bool) (k' n' : Nat),clsGo s f n set k = some (set',k',n') → n < n' ∧ n' ≤ s.length ∧ set'.length = set.length
 | 0,_,_,_,_,_,_,h => by simp [clsGo] at h
 | f + 1,n,set,k,set',k',n',h => by
   simp only [clsGo] at h
   split at h
   ·cases h
   ·rename_i c hc
    have hlt := (List.getElem?_eq_some_iff.1 hc).1
    split at h
    ·injection h with h
     injection h with h1 h2
     injection h2 with h2 h3
     subst h1; subst h3
     exact ⟨by omega,by omega,rfl⟩
    ·split at h
     ·cases h
     ·have h1 := plainF_le s n (by omega)
      have h2 := hiF_le s (plainF s n).1 (plainF s n).2.1 (plainF s n).2.2 h1.2.1
      obtain ⟨h3,h4,h5⟩ := clsGo_le s f _ _ _ _ _ _ h
      exact ⟨by omega,h4,by rw [h5,fillN_length]⟩
theorem clsF_le {s : Bytes} {n : Nat} {set : List Bool} {neg ok : Bool} {n' : Nat} (h : clsF s n = some (set,neg,ok,n')) : n < n' ∧ n' ≤ s.length ∧ set.length = 256 := by
 rw [clsF_eq] at h
 cases hq : clsGo s (s.length + 1) (if negF s n then n + 1 else n) (List.replicate 256 false) 0 with
 | none => rw [hq] at h; cases h
 | some x =>
   obtain ⟨set',k,n2⟩ := x
   rw [hq] at h
   simp only [clsE,Option.some.injEq,Prod.mk.injEq] at h
   obtain ⟨rfl,-,-,rfl⟩ := h
   obtain ⟨h1,h2,h3⟩ := clsGo_le _ _ _ _ _ _ _ _ hq
   refine ⟨?_,h2,by rw [h3,List.length_replicate]⟩
   split at h1 <;> omega
theorem one_ok (s : Bytes) (n : Nat) (hs : s.length ≤ 2 ^ 30) (hn : n < s.length) : ObjTo C 185 (encP s n) [] (oneR s (oneF s n)) := by
 obtain ⟨c,hc⟩ : ∃ c,s[n]? = some c := ⟨_,List.getElem?_eq_getElem hn⟩
 have hw : IntKind.i64.wrap ((n : Int) + 1) = ((n + 1 : Nat) : Int) := by rw [wrap64 (by omega) (by omega)]; omega
 refine objTo_of_evO ⟨[],[],false,[],[],[]⟩ [] Tryz.func185 rfl rfl rfl ?_
 refine ⟨.lex 9,by kernel_rfl,_,rfl,_,rfl,_,rfl,_,rfl,_,rfl,_,rfl,_,rfl,_,rfl,.p (.int .u8 c.toNat),⟨by omega,c,idx_str rfl hc,rfl⟩,?_⟩
 refine al_eq (fun h => ?_) (fun h => ?_)
 ·have : c = 42 := u8_eq h
  have ho : oneF s n = some (.star,n + 1) := by simp only [oneF,hc,this,if_true]
  rw [ho]
  exact ⟨_,hw,rfl,rfl,rfl⟩
 have n42 : c ≠ 42 := fun e => h (by rw [e]; rfl)
 refine al_eq (fun h => ?_) (fun h => ?_)
 ·have : c = 63 := u8_eq h
  have ho : oneF s n = some (.any,n + 1) := by simp only [oneF,hc,n42,this,if_true]; rfl
  rw [ho]
  exact ⟨_,hw,rfl,rfl,rfl⟩
 have n63 : c ≠ 63 := fun e => h (by rw [e]; rfl)
 refine al_eq (fun h => ?_) (fun h => ?_)
 ·have h91 : c = 91 := u8_eq h
  refine ⟨_,hw,?_⟩
  refine .inr (.inr ⟨_,(class_ok s (n + 1) hs (by omega)).opn,?_⟩)
  intro r ys hr
  rcases hq : clsF s (n + 1) with _ | ⟨set,neg,ok,n'⟩
  ·have ho : oneF s n = none := by simp only [oneF,hc,n42,n63,h91,hq,if_true]; rfl
   rw [hq] at hr
   obtain ⟨rfl,m,hm,rfl⟩ := hr
   rw [ho]
   exact ⟨rfl,.bad,rfl,m,hm,rfl⟩
  ·rw [hq] at hr
   obtain ⟨rfl,rfl⟩ := hr
   have hle := clsF_le hq
   cases ok with
   | true =>
     have ho : oneF s n = some (.cls set neg,n') := by simp only [oneF,hc,n42,n63,h91,hq,if_true]; rfl
     rw [ho]
     exact ⟨rfl,rfl,rfl⟩
   | false =>
     have ho : oneF s n = none := by simp only [oneF,hc,n42,n63,h91,hq,if_true]; rfl
     rw [ho]
     exact ⟨rfl,.cls set neg,rfl,n',hle.2.1,rfl⟩
 have n91 : c ≠ 91 := fun e => h (by rw [e]; rfl)
 refine .inr (.inr ⟨_,(plain_ok s n (by omega) (by omega)).opn,?_⟩)
 rintro r ys ⟨hr,rfl⟩
 have hple := plainF_le s n (by omega)
 rcases hq : plainF s n with ⟨d,ok,n'⟩
 rw [hq] at hr hple
 subst hr
 refine ⟨[5],frz_one (cells := [.p (.int .u8 d.toNat)]) (ys := [.int .u8 d.toNat]) rfl rfl rfl ?_⟩
 cases ok with
 | true =>
   have ho : oneF s n = some (.lit d,n') := by simp only [oneF,hc,n42,n63,n91,hq,if_false]
   rw [ho]
   exact ⟨rfl,rfl,rfl⟩
 | false =>
   have ho : oneF s n = none := by simp only [oneF,hc,n42,n63,n91,hq,if_false]
   rw [ho]
   exact ⟨rfl,.lit d,rfl,n',hple.2.1,rfl⟩
end Qv

end

section
namespace Go.Proofs
open Go.Shelf
def Tryz.lays99_ren : Go.Shelf.Ren := ⟨fun | 99 => 161 | 206 => 183 | n => n,fun | 9 => 9 | 4 => 4 | 3 => 3 | n => n,fun | n => n⟩
theorem Tryz.lays99 : Go.Proofs.Lays.n99 Tryz.prog Tryz.lays99_ren := {
 mixed := by kernel_rfl
 f99 := Tryz.func161.trans (congrArg some (by kernel_rfl))
 f206 := Tryz.func183.trans (congrArg some (by kernel_rfl))
 t3 := Tryz.underlying3
 a3 := Tryz.isAgg3
 z3 := Tryz.sizeOf3
 v3 := Tryz.zeroValue3
 t4 := Tryz.underlying4
 a4 := Tryz.isAgg4
 z4 := Tryz.sizeOf4
 v4 := Tryz.zeroValue4
 t9 := Tryz.underlying9
 a9 := Tryz.isAgg9
 z9 := Tryz.sizeOf9
 v9 := Tryz.zeroValue9 }
open Go.RowKit Go.Lib in
theorem Tryz.strings_HasPrefix (s p : ByteArray) (w : World) :
 Calls Tryz.prog 161 #[.string s,.string p] w fun e w' => e = .returned (.bool (Lib.hasPrefix s.data.toList p.data.toList)) ∧ w' = w := Any.strings_HasPrefix Tryz.lays99 s p w
def Tryz.lays146_ren : Go.Shelf.Ren := ⟨fun | 146 => 184 | 221 => 203 | 268 => 230 | 138 => 231 | 143 => 232 | 195 => 247 | 197 => 121 | 218 => 248 | 219 => 249 | 260 => 158 | 217 => 202 | 225 => 182 | 224 => 181 | 267 => 261 | 266 => 229 | 314 => 269 | n => n,fun | 9 => 9 | 31 => 44 | 3 => 3 | 4 => 4 | 0 => 0 | 105 => 109 | 21 => 21 | 5 => 5 | 46 => 172 | 119 => 171 | 139 => 175 | 138 => 174 | 146 => 286 | 51 => 143 | n => n,fun | 1 => 3 | 3 => 1 | 4 => 2 | n => n⟩
theorem Tryz.lays146 : Go.Proofs.Lays.n146 Tryz.prog Tryz.lays146_ren := {
 mixed := by kernel_rfl
 f138 := Tryz.func231.trans (congrArg some (by kernel_rfl))
 f143 := Tryz.func232.trans (congrArg some (by kernel_rfl))
 f146 := Tryz.func184.trans (congrArg some (by kernel_rfl))
 f195 := Tryz.func247.trans (congrArg some (by kernel_rfl))
 f197 := Tryz.func121.trans (congrArg some (by kernel_rfl))
 f217 := Tryz.func202.trans (congrArg some (by kernel_rfl))
 f218 := Tryz.func248.trans (congrArg some (by kernel_rfl))
 f219 := Tryz.func249.trans (congrArg some (by kernel_rfl))
 f221 := Tryz.func203.trans (congrArg some (by kernel_rfl))
 f224 := Tryz.func181.trans (congrArg some (by kernel_rfl))
 f225 := Tryz.func182.trans (congrArg some (by kernel_rfl))
 f260 := Tryz.func158.trans (congrArg some (by kernel_rfl))
 f266 := Tryz.func229.trans (congrArg some (by kernel_rfl))
 f267 := Tryz.func261.trans (congrArg some (by kernel_rfl))
 f268 := Tryz.func230.trans (congrArg some (by kernel_rfl))
 f314 := Tryz.func269.trans (congrArg some (by kernel_rfl))
 t0 := Tryz.underlying0
 a0 := Tryz.isAgg0
 z0 := Tryz.sizeOf0
 v0 := Tryz.zeroValue0
 t3 := Tryz.underlying3
 a3 := Tryz.isAgg3
 z3 := Tryz.sizeOf3
 v3 := Tryz.zeroValue3
 t4 := Tryz.underlying4
 a4 := Tryz.isAgg4
 z4 := Tryz.sizeOf4
 v4 := Tryz.zeroValue4
 t5 := Tryz.underlying5
 a5 := Tryz.isAgg5
 z5 := Tryz.sizeOf5
 v5 := Tryz.zeroValue5
 t9 := Tryz.underlying9
 a9 := Tryz.isAgg9
 z9 := Tryz.sizeOf9
 v9 := Tryz.zeroValue9
 t21 := Tryz.underlying21
 a21 := Tryz.isAgg21
 z21 := Tryz.sizeOf21
 v21 := Tryz.zeroValue21
 t31 := Tryz.underlying44
 a31 := Tryz.isAgg44
 z31 := Tryz.sizeOf44
 v31 := Tryz.zeroValue44
 t46 := Tryz.underlying172
 a46 := Tryz.isAgg172
 z46 := Tryz.sizeOf172
 v46 := Tryz.zeroValue172
 t51 := Tryz.underlying143
 a51 := Tryz.isAgg143
 z51 := Tryz.sizeOf143
 v51 := Tryz.zeroValue143
 t105 := Tryz.underlying109
 a105 := Tryz.isAgg109
 z105 := Tryz.sizeOf109
 v105 := Tryz.zeroValue109
 t119 := Tryz.underlying171
 a119 := Tryz.isAgg171
 z119 := Tryz.sizeOf171
 t138 := Tryz.underlying174
 a138 := Tryz.isAgg174
 z138 := Tryz.sizeOf174
 v138 := Tryz.zeroValue174
 t139 := Tryz.underlying175
 a139 := Tryz.isAgg175
 z139 := Tryz.sizeOf175
 v139 := Tryz.zeroValue175
 t146 := Tryz.underlying286
 a146 := Tryz.isAgg286
 z146 := Tryz.sizeOf286
 v146 := Tryz.zeroValue286
 g1 := by kernel_rfl
 g3 := by kernel_rfl
 g4 := by kernel_rfl }
open Go.RowKit Go.Lib in
theorem Tryz.strings_Split (s sep : ByteArray) (m : Int) (w : World) (hs : s.size < 4294967281) (hm : w.cell? ⟨3,0,none⟩ = some (.int .i64 m)) (h1 : 1 ≤ sep.size) :
 Calls Tryz.prog 184 #[.string s,.string sep] w fun e w' =>
  e = .returned (.slice (some ⟨w.heap.size,0,none⟩) (Lib.countB s sep + 1) (Lib.countB s sep + 1)) ∧ w' = w.alloc (.cells ((Lib.splitB sep 0 (Lib.countB s sep) s).map Value.string).toArray 9) := Any.strings_Split Tryz.lays146 (by kernel_rfl) s sep m w hs hm h1
end Go.Proofs
end
