/- Several texts in one: The context of the seat of the queries: the table of its types; the variables that the library's texts lean on and what follows. No condition. -/
import Derived.Test.YtpoefbbfhebakaaGreatDoorCv4
import Derived.Test.YtpoefbbfhebakaaGreatDoorProg
import Derived.KernelRfl
import Derived.Lib.LaidTab
import Derived.Lib.ItoaNum
import Derived.Shelf.Strings.Builder1
import Derived.Shelf.Strings.Builder2
import Derived.Shelf.Strings.Trim
import Derived.Shelf.Small.Utf8
import Derived.Shelf.Small.Strs
import Derived.Shelf.Strconv.Atoi
import Derived.Shelf.Strconv.Itoa0
import Derived.Shelf.Strconv.Itoa1
import Derived.Shelf.LaysM
import Derived.Shelf.Strconv.Itoa2
import Derived.Shelf.Strconv.Itoa3
import Derived.Shelf.Strconv.AtoiErrFast
import Derived.Shelf.Strconv.ParseIntEmpty
import Derived.Shelf.Strconv.AtoiFail
import Derived.Shelf.Strconv.Clone
import Derived.Shelf.Strconv.SyntaxError
import Derived.Shelf.LaysC
import Derived.Shelf.Strconv.ToError
import Derived.Shelf.Strconv.Lower
import Derived.Shelf.Strconv.ParseUint10
import Derived.Shelf.Strconv.ParseUint10Empty
import Derived.Shelf.Strconv.ParseUint10Any
import Derived.Shelf.Strconv.ParseInt10
import Derived.Shelf.Strconv.AtoiLong
import Derived.Shelf.Strconv.AtoiInnerAll
import Derived.Shelf.Strconv.RangeError
import Derived.Shelf.Strconv.ToErrorRange
import Derived.Shelf.Strconv.AtoiAll
import Derived.Shelf.Strconv.ErrVarAll
import Derived.Shelf.Strings.Search1
import Derived.Shelf.Strings.Search2
import Derived.Shelf.Strings.Search3
import Derived.Shelf.Strings.Count
import Derived.Shelf.Strings.Shaped
import Derived.Shelf.Strings.Prefix
import Derived.Shelf.Strings.Split
import Derived.Shelf.Strings.SplitShaped
import Derived.Shelf.Strings.Runes
import Derived.Shelf.Strings.AsciiSet
import Derived.Shelf.Unicode.DecodeSlow
import Derived.Shelf.Unicode.DecodeAny
import Derived.Shelf.Unicode.DecodeLast
set_option linter.unusedVariables false
set_option linter.unusedSimpArgs false

section
open Go Go.Proofs Go.RowKit
namespace Qv
theorem wR {v : FV} : Weak v v := Weak.refl v
def qryJ (w : World) : Prop :=
 Lib.TabIs Tryz.prog w "internal/strconv.uint64pow10" .u64 Lib.pow10Tab ∧ (∃ m, w.cell? ⟨3, 0, none⟩ = some (.int .i64 m)) ∧
  (∃ tp p, w.var? Tryz.prog "strconv.ErrSyntax" = some #[.iface tp p]) ∧ (∃ tp p, w.var? Tryz.prog "strconv.ErrRange" = some #[.iface tp p])
theorem glob_pow10 : Tryz.prog.globalNamed "internal/strconv.uint64pow10" = some 4 := by kernel_rfl
theorem glob_e1 : Tryz.prog.globalNamed "strconv.ErrSyntax" = some 5 := by kernel_rfl
theorem glob_e2 : Tryz.prog.globalNamed "strconv.ErrRange" = some 6 := by kernel_rfl
theorem qryJ_stable (w w' : World) (h : ∀ k,k < 9 → w'.heap[k]? = w.heap[k]?) (hJ : qryJ w) : qryJ w' := by
 obtain ⟨h1,⟨m,h2⟩,⟨t1,p1,h3⟩,⟨t2,p2,h4⟩⟩ := hJ
 refine ⟨?_,⟨m,?_⟩,⟨t1,p1,?_⟩,⟨t2,p2,?_⟩⟩
 ·unfold Lib.TabIs at *
  rw [← h1]
  simp only [World.var?,glob_pow10,Option.bind_some,h 4 (by decide)]
 ·rw [← h2]
  simp only [World.cell?,h 3 (by decide)]
 ·rw [← h3]
  simp only [World.var?,glob_e1,Option.bind_some,h 5 (by decide)]
 ·rw [← h4]
  simp only [World.var?,glob_e2,Option.bind_some,h 6 (by decide)]
def tab : List (TypeId × TInfo) := [
 (3,⟨1,8,.int .i64,[.int .i64 0]⟩),
 (4,⟨1,1,.bool,[.bool false]⟩),
 (5,⟨1,1,.int .u8,[.int .u8 0]⟩),
 (9,⟨1,16,.str,[.string ⟨#[]⟩]⟩),
 (20,⟨1,16,.iface,[.nilIface]⟩),
 (21,⟨1,4,.int .i32,[.int .i32 0]⟩),
 (22,⟨1,24,.slice 24,[.slice none 0 0]⟩),
 (24,⟨4,56,.struct [(0,3),(1,9),(2,3),(3,22)],[.int .i64 0,.string ⟨#[]⟩,.int .i64 0,.slice none 0 0]⟩),
 (27,⟨1,8,.int .i64,[.int .i64 0]⟩),
 (30,⟨1,8,.func,[.nilFunc]⟩),
 (31,⟨1,8,.func,[.nilFunc]⟩),
 (39,⟨1,24,.slice 4,[.slice none 0 0]⟩),
 (43,⟨12,168,.array 3 24,[.int .i64 0,.string ⟨#[]⟩,.int .i64 0,.slice none 0 0,.int .i64 0,.string ⟨#[]⟩,.int .i64 0,.slice none 0 0,.int .i64 0,.string ⟨#[]⟩,.int .i64 0,.slice none 0 0]⟩),
 (44,⟨1,24,.slice 9,[.slice none 0 0]⟩),
 (45,⟨1,8,.func,[.nilFunc]⟩),
 (46,⟨1,24,.slice 3,[.slice none 0 0]⟩),
 (47,⟨1,8,.map 9 24,[.map none]⟩),
 (53,⟨1,8,.ptr 55,[.pointer none]⟩),
 (55,⟨2,16,.struct [(0,3),(1,4)],[.int .i64 0,.bool false]⟩),
 (59,⟨1,8,.map 3 83,[.map none]⟩),
 (62,⟨1,8,.func,[.nilFunc]⟩),
 (69,⟨3,32,.struct [(0,9),(1,3),(2,4)],[.string ⟨#[]⟩,.int .i64 0,.bool false]⟩),
 (74,⟨256,256,.array 256 4,List.replicate 256 (.bool false)⟩),
 (75,⟨256,256,.array 256 4,List.replicate 256 (.bool false)⟩),
 (79,⟨1,8,.ptr 75,[.pointer none]⟩),
 (83,⟨1,24,.slice 85,[.slice none 0 0]⟩),
 (84,⟨1,8,.func,[.nilFunc]⟩),
 (85,⟨1,8,.func,[.nilFunc]⟩),
 (89,⟨1,8,.func,[.nilFunc]⟩),
 (94,⟨14,224,.array 14 9,[.string ⟨#[]⟩,.string ⟨#[]⟩,.string ⟨#[]⟩,.string ⟨#[]⟩,.string ⟨#[]⟩,.string ⟨#[]⟩,.string ⟨#[]⟩,.string ⟨#[]⟩,.string ⟨#[]⟩,.string ⟨#[]⟩,.string ⟨#[]⟩,.string ⟨#[]⟩,.string ⟨#[]⟩,.string ⟨#[]⟩]⟩),
 (99,⟨1,8,.int .i64,[.int .i64 0]⟩),
 (101,⟨1,8,.ptr 105,[.pointer none]⟩),
 (103,⟨4,40,.struct [(0,3),(1,9),(2,3),(3,3)],[.int .i64 0,.string ⟨#[]⟩,.int .i64 0,.int .i64 0]⟩),
 (105,⟨6,64,.struct [(0,9),(1,3),(2,103)],[.string ⟨#[]⟩,.int .i64 0,.int .i64 0,.string ⟨#[]⟩,.int .i64 0,.int .i64 0]⟩),
 (106,⟨1,8,.func,[.nilFunc]⟩),
 (108,⟨1,8,.func,[.nilFunc]⟩),
 (120,⟨1,24,.slice 5,[.slice none 0 0]⟩),
 (124,⟨1,24,.slice 130,[.slice none 0 0]⟩),
 (127,⟨1,24,.slice 39,[.slice none 0 0]⟩),
 (128,⟨1,24,.slice 184,[.slice none 0 0]⟩),
 (130,⟨2,32,.struct [(0,4),(1,128)],[.bool false,.slice none 0 0]⟩),
 (132,⟨1,24,.slice 137,[.slice none 0 0]⟩),
 (135,⟨1,24,.slice 199,[.slice none 0 0]⟩),
 (137,⟨2,32,.struct [(0,4),(1,135)],[.bool false,.slice none 0 0]⟩),
 (158,⟨1,8,.ptr 160,[.pointer none]⟩),
 (160,⟨2,32,.struct [(0,158),(1,120)],[.pointer none,.slice none 0 0]⟩),
 (162,⟨1,16,.iface,[.nilIface]⟩),
 (180,⟨1,8,.ptr 182,[.pointer none]⟩),
 (182,⟨2,24,.struct [(0,9),(1,3)],[.string ⟨#[]⟩,.int .i64 0]⟩),
 (184,⟨4,16,.struct [(0,4),(1,4),(2,5),(3,108)],[.bool false,.bool false,.int .u8 0,.nilFunc]⟩),
 (187,⟨2,16,.struct [(0,3),(1,3)],[.int .i64 0,.int .i64 0]⟩),
 (188,⟨2,16,.struct [(0,3),(1,3)],[.int .i64 0,.int .i64 0]⟩),
 (189,⟨1,8,.map 188 4,[.map none]⟩),
 (190,⟨1,24,.slice 188,[.slice none 0 0]⟩),
 (192,⟨1,8,.func,[.nilFunc]⟩),
 (193,⟨1,8,.func,[.nilFunc]⟩),
 (199,⟨258,258,.struct [(0,4),(1,4),(2,74)],List.replicate 258 (.bool false)⟩)]
theorem tab_ok : ∀ t i,(t,i) ∈ tab → TabOK Tryz.prog t i := by
 intro t i h
 simp only [tab,List.mem_cons,Prod.mk.injEq,List.not_mem_nil,or_false] at h
 rcases h with ⟨rfl,rfl⟩ | ⟨rfl,rfl⟩ | ⟨rfl,rfl⟩ | ⟨rfl,rfl⟩ | ⟨rfl,rfl⟩ | ⟨rfl,rfl⟩ | ⟨rfl,rfl⟩ | ⟨rfl,rfl⟩ | ⟨rfl,rfl⟩ | ⟨rfl,rfl⟩ | ⟨rfl,rfl⟩ | ⟨rfl,rfl⟩ | ⟨rfl,rfl⟩ | ⟨rfl,rfl⟩ | ⟨rfl,rfl⟩ | ⟨rfl,rfl⟩ | ⟨rfl,rfl⟩ | ⟨rfl,rfl⟩ | ⟨rfl,rfl⟩ | ⟨rfl,rfl⟩ | ⟨rfl,rfl⟩ | ⟨rfl,rfl⟩ | ⟨rfl,rfl⟩ | ⟨rfl,rfl⟩ | ⟨rfl,rfl⟩ | ⟨rfl,rfl⟩ | ⟨rfl,rfl⟩ | ⟨rfl,rfl⟩ | ⟨rfl,rfl⟩ | ⟨rfl,rfl⟩ | ⟨rfl,rfl⟩ | ⟨rfl,rfl⟩ | ⟨rfl,rfl⟩ | ⟨rfl,rfl⟩ | ⟨rfl,rfl⟩ | ⟨rfl,rfl⟩ | ⟨rfl,rfl⟩ | ⟨rfl,rfl⟩ | ⟨rfl,rfl⟩ | ⟨rfl,rfl⟩ | ⟨rfl,rfl⟩ | ⟨rfl,rfl⟩ | ⟨rfl,rfl⟩ | ⟨rfl,rfl⟩ | ⟨rfl,rfl⟩ | ⟨rfl,rfl⟩ | ⟨rfl,rfl⟩ | ⟨rfl,rfl⟩ | ⟨rfl,rfl⟩ | ⟨rfl,rfl⟩ | ⟨rfl,rfl⟩ | ⟨rfl,rfl⟩ | ⟨rfl,rfl⟩ | ⟨rfl,rfl⟩ | ⟨rfl,rfl⟩ | ⟨rfl,rfl⟩ | ⟨rfl,rfl⟩
 all_goals exact ⟨by kernel_rfl,by kernel_rfl,by kernel_rfl⟩
noncomputable def C : Ctx := ⟨Tryz.prog,tab,tab_ok,qryJ,9,rfl,160,5,qryJ_stable,[],⟨[],[],false,[],[],[]⟩,fun _ => False,0,[]⟩
end Qv

end

section
open Go Go.Proofs
namespace Qv
def peekF (s : Bytes) (n : Nat) : UInt8 × Bool := match s[n]? with
 | some c => (c,true)
 | none => (0,false)
def encP (s : Bytes) (n : Nat) : List AV := [.str s,.int .i64 n]
def enc2 (p : UInt8 × Bool) : AV := .tup [.int .u8 p.1.toNat,.bool p.2]
theorem idx_str {s : Bytes} {n : Int} {k : Nat} {c : UInt8} (hn : n = k) (h : s[k]? = some c) : s[n.toNat]? = some c := by
 subst hn
 simpa using h
theorem peek_ok (s : Bytes) (n i : Nat) (hs : s.length ≤ 2 ^ 40) (hn : n ≤ s.length + 1) (hi : i ≤ 1) : ObjTo C 233 (encP s n) [.int .i64 i] (fun r ys => r = enc2 (peekF s (n + i)) ∧ ys = encP s n) := by
 have hw : IntKind.i64.wrap ((n : Int) + (i : Int)) = ((n + i : Nat) : Int) := by rw [wrap64 (by omega) (by omega)]; omega
 refine objTo_of_evO ⟨[],[],false,[],[],[]⟩ [] Tryz.func233 rfl rfl rfl ?_
 refine ⟨.lex 11,by kernel_rfl,_,rfl,_,rfl,_,rfl,_,rfl,_,rfl,_,⟨_,hw,rfl⟩,_,rfl,_,rfl,_,rfl,_,rfl,_,rfl,?_⟩
 refine al_dec (fun h => ?_) (fun h => ?_)
 ·refine ⟨rfl,?_,rfl⟩
  have : s[n + i]? = none := List.getElem?_eq_none (by omega)
  simp only [peekF,this]
  rfl
 ·obtain ⟨c,hc⟩ : ∃ c,s[n + i]? = some c := ⟨_,List.getElem?_eq_getElem (by omega)⟩
  refine ⟨.lex 12,by kernel_rfl,_,rfl,_,rfl,_,rfl,_,rfl,_,rfl,_,rfl,_,rfl,_,rfl,_,rfl,_,⟨_,hw,rfl⟩,.p (.int .u8 c.toNat),⟨by omega,c,idx_str rfl hc,rfl⟩,_,rfl,?_⟩
  refine ⟨rfl,?_,rfl⟩
  simp only [peekF,hc]
  rfl
def plainK (s : Bytes) (n : Nat) : Nat := if s[n]? = some 92 then n + 1 else n
def plainF (s : Bytes) (n : Nat) : UInt8 × Bool × Nat := match s[plainK s n]? with
 | some c => (c,true,plainK s n + 1)
 | none => (0,false,plainK s n)
theorem plainF_none {s : Bytes} {n k : Nat} (hk : plainK s n = k) (h : ¬ k < s.length) : plainF s n = (0,false,k) := by
 have : s[k]? = none := List.getElem?_eq_none (by omega)
 simp only [plainF,hk,this]
theorem plainF_some {s : Bytes} {n k : Nat} {c : UInt8} (hk : plainK s n = k) (h : s[k]? = some c) : plainF s n = (c,true,k + 1) := by
 simp only [plainF,hk,h]
theorem plain_ok (s : Bytes) (n : Nat) (hs : s.length ≤ 2 ^ 40) (hn : n ≤ s.length) : ObjTo C 206 (encP s n) [] (fun r ys => r = enc2 ((plainF s n).1,(plainF s n).2.1) ∧ ys = encP s (plainF s n).2.2) := by
 have hw : IntKind.i64.wrap ((n : Int) + 1) = ((n + 1 : Nat) : Int) := by rw [wrap64 (by omega) (by omega)]; omega
 refine objTo_of_evO ⟨[],[],false,[],[],[]⟩ [3] Tryz.func206 rfl rfl rfl ?_
 by_cases hlt : n < s.length
 ·obtain ⟨c,hc⟩ : ∃ c,s[n]? = some c := ⟨_,List.getElem?_eq_getElem (by omega)⟩
  refine ⟨.lex 20,by kernel_rfl,_,rfl,_,rfl,_,rfl,_,rfl,_,rfl,_,rfl,_,rfl,_,rfl,_,rfl,.p (.bool true),⟨fun t ht => by rw [ht,decide_eq_true (by simpa using hlt)]⟩,_,rfl,_,rfl,_,rfl,_,rfl,_,rfl,_,rfl,_,rfl,_,rfl,_,rfl,.p (.int .u8 c.toNat),⟨by omega,c,idx_str rfl hc,rfl⟩,?_⟩
  refine al_eq (fun h => ?_) (fun h => ?_)
  ·have hk : plainK s n = n + 1 := by
    have : c = 92 := u8_eq h
    simp [plainK,hc,this]
   refine ⟨_,hw,?_⟩
   refine cutR 60 [(0,.ptr 999999 0)] [(999999,mapP (encP s (n + 1)))] rfl ⟨wR,trivial⟩ ⟨hO1 rfl,trivial⟩ ?_
   have hw1 : IntKind.i64.wrap ((((n + 1) : Nat) : Int) + 1) = (((n + 1) + 1 : Nat) : Int) := by rw [wrap64 (by omega) (by omega)]; omega
   have hw2 : IntKind.i64.wrap ((((n + 1) + 1 : Nat) : Int) - 1) = (((n + 1) : Nat) : Int) := by rw [wrap64 (by omega) (by omega)]; omega
   refine ⟨.lex 9,by kernel_rfl,_,rfl,_,rfl,_,rfl,_,rfl,_,rfl,_,rfl,_,rfl,_,rfl,_,rfl,?_⟩
   refine al_dec (fun hge => ?_) (fun hge => ?_)
   ·rw [plainF_none hk (by omega)]
    exact ⟨rfl,rfl,rfl⟩
   ·obtain ⟨d,hd⟩ : ∃ d,(s)[((n + 1) : Nat)]? = some d := ⟨_,List.getElem?_eq_getElem (by omega)⟩
    refine ⟨_,hw1,.lex 11,by kernel_rfl,_,rfl,_,rfl,_,rfl,_,rfl,_,rfl,_,rfl,_,rfl,_,rfl,_,⟨_,hw2,rfl⟩,.p (.int .u8 d.toNat),⟨by omega,d,idx_str rfl hd,rfl⟩,_,rfl,?_⟩
    rw [plainF_some hk hd]
    exact ⟨rfl,rfl,rfl⟩
  ·have hk : plainK s n = n := by
    have : c ≠ 92 := fun e => h (by rw [e]; rfl)
    simp [plainK,hc,this]
   refine cutR 60 [(0,.ptr 999999 0)] [(999999,mapP (encP s n))] rfl ⟨wR,trivial⟩ ⟨hO1 rfl,trivial⟩ ?_
   have hw1 : IntKind.i64.wrap (((n : Nat) : Int) + 1) = ((n + 1 : Nat) : Int) := by rw [wrap64 (by omega) (by omega)]; omega
   have hw2 : IntKind.i64.wrap (((n + 1 : Nat) : Int) - 1) = ((n : Nat) : Int) := by rw [wrap64 (by omega) (by omega)]; omega
   refine ⟨.lex 9,by kernel_rfl,_,rfl,_,rfl,_,rfl,_,rfl,_,rfl,_,rfl,_,rfl,_,rfl,_,rfl,?_⟩
   refine al_dec (fun hge => ?_) (fun hge => ?_)
   ·rw [plainF_none hk (by omega)]
    exact ⟨rfl,rfl,rfl⟩
   ·obtain ⟨d,hd⟩ : ∃ d,(s)[(n : Nat)]? = some d := ⟨_,List.getElem?_eq_getElem (by omega)⟩
    refine ⟨_,hw1,.lex 11,by kernel_rfl,_,rfl,_,rfl,_,rfl,_,rfl,_,rfl,_,rfl,_,rfl,_,rfl,_,⟨_,hw2,rfl⟩,.p (.int .u8 d.toNat),⟨by omega,d,idx_str rfl hd,rfl⟩,_,rfl,?_⟩
    rw [plainF_some hk hd]
    exact ⟨rfl,rfl,rfl⟩
 ·have hk : plainK s n = n := by
   have : s[n]? = none := List.getElem?_eq_none (by omega)
   simp [plainK,this]
  refine ⟨.lex 20,by kernel_rfl,_,rfl,_,rfl,_,rfl,_,rfl,_,rfl,_,rfl,_,rfl,_,rfl,_,rfl,.p (.bool false),⟨fun t ht => by rw [ht,decide_eq_false (by simpa using hlt)]⟩,_,rfl,?_⟩
  refine cutR 60 [(0,.ptr 999999 0)] [(999999,mapP (encP s n))] rfl ⟨wR,trivial⟩ ⟨hO1 rfl,trivial⟩ ?_
  have hw1 : IntKind.i64.wrap (((n : Nat) : Int) + 1) = ((n + 1 : Nat) : Int) := by rw [wrap64 (by omega) (by omega)]; omega
  have hw2 : IntKind.i64.wrap (((n + 1 : Nat) : Int) - 1) = ((n : Nat) : Int) := by rw [wrap64 (by omega) (by omega)]; omega
  refine ⟨.lex 9,by kernel_rfl,_,rfl,_,rfl,_,rfl,_,rfl,_,rfl,_,rfl,_,rfl,_,rfl,_,rfl,?_⟩
  refine al_dec (fun hge => ?_) (fun hge => ?_)
  ·rw [plainF_none hk (by omega)]
   exact ⟨rfl,rfl,rfl⟩
  ·obtain ⟨d,hd⟩ : ∃ d,(s)[(n : Nat)]? = some d := ⟨_,List.getElem?_eq_getElem (by omega)⟩
   refine ⟨_,hw1,.lex 11,by kernel_rfl,_,rfl,_,rfl,_,rfl,_,rfl,_,rfl,_,rfl,_,rfl,_,rfl,_,⟨_,hw2,rfl⟩,.p (.int .u8 d.toNat),⟨by omega,d,idx_str rfl hd,rfl⟩,_,rfl,?_⟩
   rw [plainF_some hk hd]
   exact ⟨rfl,rfl,rfl⟩
end Qv

end

section
open Go Go.Proofs
namespace Qv
theorem drop_set {set : List Bool} {m : Nat} {b : Bool} (h : set[m]? = some b) : dropN (m * 1) (set.map AV.bool) = .bool b :: (set.drop (m + 1)).map AV.bool := by
 have hm := (List.getElem?_eq_some_iff.1 h).1
 have hb := (List.getElem?_eq_some_iff.1 h).2
 rw [Nat.mul_one,dropN_eq,← List.map_drop,List.drop_eq_getElem_cons hm,hb]
 rfl
def clsB (set : List Bool) (neg : Bool) (c : UInt8) : Bool := c != 47 && (set.getD c.toNat false != neg)
theorem cls_ok (c : UInt8) (set : List Bool) (neg : Bool) (hset : set.length = 256) : CallsTo C 234 [.int .u8 c.toNat,.imp (set.map AV.bool),.imp [.bool neg]] (fun r => r = .val (.bool (clsB set neg c))) := by
 refine cTo' Tryz.func234 rfl rfl rfl ?_
 have hc : c.toNat < 256 := c.toNat_lt
 obtain ⟨b,hb⟩ : ∃ b,set[c.toNat]? = some b := ⟨_,List.getElem?_eq_getElem (by omega)⟩
 have hg : set.getD c.toNat false = b := by simp [List.getD,hb]
 by_cases h47 : c = 47
 ·subst h47
  refine ⟨.lex 7,by kernel_rfl,_,rfl,.p (.bool false),⟨fun t ht => by rw [ht]; rfl⟩,_,rfl,?_⟩
  rfl
 ·have hne : ((c.toNat : Int) != ((47 : UInt8).toNat : Int)) = true := by
   simp only [bne_iff_ne,ne_eq]
   intro e; exact h47 (u8_eq e)
  refine ⟨.lex 7,by kernel_rfl,_,rfl,.p (.bool true),⟨fun t ht => by rw [ht]; exact congrArg _ (congrArg _ hne)⟩,_,rfl,_,rfl,_,⟨c.toNat,rfl,hc,_,drop_set hb,rfl⟩,_,rfl,_,rfl,?_⟩
  refine ⟨fun t ht => ?_⟩
  subst ht
  have : clsB set neg c = !(b == neg) := by
   have h1 : (c != 47) = true := by simpa using h47
   simp only [clsB,hg,h1,Bool.true_and]; rfl
  rw [this]
  rfl
end Qv

end

section
open Go Go.Proofs
namespace Qv
def clsFn (set : List Bool) (neg : Bool) : AV := .fn (.func 234) [] [.imp (set.map AV.bool),.imp [.bool neg]]
def someC (set : List Bool) (neg : Bool) : Bool := (List.range 256).any fun i => clsB set neg (UInt8.ofNat i)
theorem some_ok (set : List Bool) (neg : Bool) (hset : set.length = 256) : CallsTo C 235 [clsFn set neg] (fun r => r = .val (.bool (someC set neg))) := by
 refine cTo' Tryz.func235 rfl rfl rfl ?_
 refine loopR 12 (fun k : Nat => [(0,.p (clsFn set neg)),(4,.p (.int .i64 k))]) (fun _ => []) (fun k => k ≤ 256 ∧ ∀ i,i < k → clsB set neg (UInt8.ofNat i) = false) (fun k => 256 - k) 0 ⟨Nat.zero_le _,fun i hi => absurd hi (by omega)⟩ rfl ⟨wR,wR,trivial⟩ trivial ?_
 rintro k ⟨hk,hb⟩
 refine al_dec (fun hlt => ?_) (fun hge => ?_)
 ·have hlt : k < 256 := by omega
  have hw : IntKind.u8.wrap (k : Int) = ((UInt8.ofNat k).toNat : Int) := by
   rw [wrapU8 (by omega) (by omega)]
   have : (UInt8.ofNat k).toNat = k := by simp; omega
   rw [this]
  refine ⟨_,hw,_,cls_ok (UInt8.ofNat k) set neg hset,fun r hr => ?_⟩
  subst hr
  cases hq : clsB set neg (UInt8.ofNat k) with
  | true =>
    have : someC set neg = true := by
     unfold someC
     rw [List.any_eq_true]
     exact ⟨k,by simpa using hlt,hq⟩
    show Ret.val (.bool true) = _
    rw [this]
  | false =>
    refine ⟨((k + 1 : Nat) : Int),by rw [wrap64 (by omega) (by omega)]; omega,roundR (k + 1) ⟨hlt,fun i hi => ?_⟩ (by omega) rfl ⟨wR,wR,trivial⟩ trivial⟩
    by_cases hik : i = k
    ·rw [hik]; exact hq
    ·exact hb i (by omega)
 ·have : someC set neg = false := by
   unfold someC
   rw [List.any_eq_false]
   intro i hi
   rw [hb i (by have := List.mem_range.1 hi; omega)]
   simp
  show Ret.val (.bool false) = _
  rw [this]
end Qv

end

section
open Go Go.Proofs
namespace Qv
def fillN (set : List Bool) : Nat → Nat → List Bool
 | _,0 => set
 | i,c + 1 => fillN (set.set i true) (i + 1) c
def hiF (s : Bytes) (lo : UInt8) (ok : Bool) (n : Nat) : UInt8 × Bool × Nat :=
 if ok = true ∧ (peekF s n).1 = 45 ∧ (peekF s (n + 1)).2 = true ∧ (peekF s (n + 1)).1 ≠ 93 then plainF s (n + 1) else (lo,ok,n)
def clsGo (s : Bytes) : Nat → Nat → List Bool → Nat → Option (List Bool × Nat × Nat)
 | 0,_,_,_ => none
 | f + 1,n,set,k =>
   match s[n]? with
   | none => none
   | some c => if c = 93 then some (set,k,n + 1) else
     let p := plainF s n
     let h := hiF s p.1 p.2.1 p.2.2
     if h.2.1 = false ∨ h.1.toNat < p.1.toNat then none else clsGo s f h.2.2 (fillN set p.1.toNat (h.1.toNat + 1 - p.1.toNat)) (k + 1)
def negF (s : Bytes) (n : Nat) : Bool := (peekF s n).1 == 33
def clsF (s : Bytes) (n : Nat) : Option (List Bool × Bool × Bool × Nat) :=
 match clsGo s (s.length + 1) (if negF s n then n + 1 else n) (List.replicate 256 false) 0 with
 | none => none
 | some (set,k,n') => some (set,negF s n,(decide (0 < k) && someC set (negF s n)),n')
theorem fillN_length : ∀ (c i : Nat) (set : List Bool),(fillN set i c).length = set.length
 | 0,_,_ => rfl
 | c + 1,i,set => by rw [fillN,fillN_length c]; simp
theorem fillN_next : ∀ (c i : Nat) (set : List Bool),fillN set i (c + 1) = (fillN set i c).set (i + c) true
 | 0,i,set => rfl
 | c + 1,i,set => by
   rw [fillN,fillN_next c (i + 1),fillN,show i + 1 + c = i + (c + 1) from by omega]
theorem plainF_le (s : Bytes) (n : Nat) (hn : n ≤ s.length) : n ≤ (plainF s n).2.2 ∧ (plainF s n).2.2 ≤ s.length ∧ ((plainF s n).2.1 = true → n < (plainF s n).2.2) := by
 have hk : n ≤ plainK s n ∧ plainK s n ≤ s.length := by
  unfold plainK
  split
  ·rename_i h
   have := (List.getElem?_eq_some_iff.1 h).1
   omega
  ·omega
 unfold plainF
 split
 ·rename_i c h
  have := (List.getElem?_eq_some_iff.1 h).1
  exact ⟨by simp only; omega,by simp only; omega,fun _ => by simp only; omega⟩
 ·exact ⟨by simp only; omega,by simp only; omega,fun h => by cases h⟩
theorem peekF_some {s : Bytes} {n : Nat} {c : UInt8} (h : s[n]? = some c) : peekF s n = (c,true) := by simp [peekF,h]
theorem peekF_none {s : Bytes} {n : Nat} (h : s[n]? = none) : peekF s n = (0,false) := by simp [peekF,h]
theorem peekF_lt {s : Bytes} {n : Nat} (h : (peekF s n).2 = true) : n < s.length := by
 unfold peekF at h
 split at h
 ·rename_i c hc; exact (List.getElem?_eq_some_iff.1 hc).1
 ·cases h
theorem hiF_le (s : Bytes) (lo : UInt8) (ok : Bool) (n : Nat) (hn : n ≤ s.length) : n ≤ (hiF s lo ok n).2.2 ∧ (hiF s lo ok n).2.2 ≤ s.length := by
 unfold hiF
 split
 ·rename_i h
  have h1 := peekF_lt h.2.2.1
  have := plainF_le s (n + 1) (by omega)
  omega
 ·exact ⟨Nat.le_refl _,hn⟩
theorem hiF_ok {s : Bytes} {lo : UInt8} {ok : Bool} {n : Nat} (h : (hiF s lo ok n).2.1 = true) : ok = true := by
 unfold hiF at h
 split at h
 ·rename_i h1; exact h1.1
 ·exact h
end Qv

end

section
open Go Go.Proofs
namespace Qv
def zero109 : List AV := [.bool false,.bool false,.int .u8 0,.nilf]
def encSet (set : List Bool) : List FV := mapP (set.map AV.bool)
def clsR (s : Bytes) : Option (List Bool × Bool × Bool × Nat) → AV → List AV → Prop
 | none,r,ys => r = .tup [.agg zero109,.bool false] ∧ ∃ m,m ≤ s.length ∧ ys = encP s m
 | some (set,neg,ok,n'),r,ys => r = .tup [.agg [.bool false,.bool false,.int .u8 0,clsFn set neg],.bool ok] ∧ ys = encP s n'
abbrev clsSlots (k : Nat) : List (Nat × FV) := [(0,.ptr 999999 0),(2,.ptr 2 0),(4,.ptr 4 0),(7,.ptr 7 0),(3,.p (.bool false)),(8,.p (.int .i64 k))]
abbrev clsS (k : Nat) (more : List (Nat × FV)) : List (Nat × FV) := (0,.ptr 999999 0) :: (2,.ptr 2 0) :: (4,.ptr 4 0) :: (7,.ptr 7 0) :: (3,.p (.bool false)) :: (8,.p (.int .i64 k)) :: more
abbrev clsObjs (s : Bytes) (n : Nat) (set : List Bool) (neg : Bool) : List (Nat × List FV) := [(2,mapP zero109),(999999,mapP (encP s n)),(4,encSet set),(7,[.p (.bool neg)])]
theorem encSet_append (a b : List Bool) : encSet (a ++ b) = encSet a ++ encSet b := by
 simp [encSet,mapP_eq]
theorem encSet_length (a : List Bool) : (encSet a).length = a.length := by
 simp [encSet,mapP_eq]
theorem encSet_split {set : List Bool} {i : Nat} (h : i < set.length) : encSet set = encSet (set.take i) ++ ([.p (.bool set[i])] ++ encSet (set.drop (i + 1))) := by
 have : set = set.take i ++ ([set[i]] ++ set.drop (i + 1)) := by
  rw [List.singleton_append,← List.drop_eq_getElem_cons h,List.take_append_drop]
 conv => lhs; rw [this,encSet_append,encSet_append]
 rfl
theorem encSet_set {set : List Bool} {i : Nat} {b : Bool} (h : i < set.length) : encSet (set.take i) ++ ([.p (.bool b)] ++ encSet (set.drop (i + 1))) = encSet (set.set i b) := by
 have : set.set i b = set.take i ++ ([b] ++ set.drop (i + 1)) := by
  rw [List.set_eq_take_append_cons_drop,if_pos h]
  rfl
 rw [this,encSet_append,encSet_append]
 rfl
theorem frz_one {d : Nat} {ds : List Nat} {K : ASt → Prop} {S : ASt} {cells : List FV} {ys : List AV} (h1 : getO S.objs d = some cells) (h2 : FV.toAVs cells = some ys) (h3 : allOneA ys = true) (h : evFrz ds K (S.frz d ys)) : evFrz (d :: ds) K S := by
 simp only [evFrz,h1,h2,h3]
 exact h
theorem toAVs_mapP (xs : List AV) : FV.toAVs (mapP xs) = some xs := by
 induction xs with
 | nil => rfl
 | cons x xs ih => simp [mapP,FV.toAVs,FV.toAV,ih]
theorem allOne_set (set : List Bool) : allOneA (set.map AV.bool) = true := by
 induction set with
 | nil => rfl
 | cons b set ih => simp only [List.map_cons,allOneA,AV.one]; exact ih
structure Hid (T : Prop) : Prop where
 out : T
theorem share {T G : Prop} (h : Hid T → G) (t : T) : G := h ⟨t⟩
def clsE (s : Bytes) (neg : Bool) : Option (List Bool × Nat × Nat) → Option (List Bool × Bool × Bool × Nat)
 | none => none
 | some (set,k,n') => some (set,neg,(decide (0 < k) && someC set neg),n')
theorem clsF_eq (s : Bytes) (n : Nat) : clsF s n = clsE s (negF s n) (clsGo s (s.length + 1) (if negF s n then n + 1 else n) (List.replicate 256 false) 0) := by
 unfold clsF clsE
 cases clsGo s (s.length + 1) (if negF s n then n + 1 else n) (List.replicate 256 false) 0 <;> rfl
set_option maxRecDepth 100000 in
theorem class_ok (s : Bytes) (n : Nat) (hs : s.length ≤ 2 ^ 30) (hn : n ≤ s.length) : ObjTo C 205 (encP s n) [] (clsR s (clsF s n)) := by
 refine objTo_of_evO ⟨[],[],false,[],[],[]⟩ [6,13,16,19] Tryz.func205 rfl rfl rfl ?_
 have hw : IntKind.i64.wrap ((n : Int) + 1) = ((n + 1 : Nat) : Int) := by rw [wrap64 (by omega) (by omega)]; omega
 refine .inr (.inr ⟨_,(peek_ok s n 0 (by omega) (by omega) (by omega)).opn,?_⟩)
 rintro r ys ⟨rfl,rfl⟩
 rw [clsF_eq]
 refine share (T := ?T) (fun H => ?main) ?rest
 case main =>
  obtain ⟨neg,e1⟩ : ∃ neg,negF s n = neg := ⟨_,rfl⟩
  obtain ⟨n0,e0⟩ : ∃ n0,(if neg = true then n + 1 else n) = n0 := ⟨_,rfl⟩
  rw [e1,e0]
  refine al_eq (fun h => ?_) (fun h => ?_)
  ·have h0 : (peekF s n).1 = 33 := u8_eq h
   have hneg : neg = true := by rw [← e1]; simp [negF,h0]
   have hlt : n < s.length := by
    refine peekF_lt ?_
    cases hq : s[n]? with
    | none => rw [peekF_none hq] at h0; exact absurd h0 (by decide)
    | some c => rw [peekF_some hq]
   refine ⟨_,hw,?_⟩
   have hn0 : n0 = n + 1 := by rw [← e0,if_pos hneg]
   have hle : n0 ≤ s.length := by omega
   refine cutR 121 (clsSlots 0 |>.take 5) (clsObjs s n0 (List.replicate 256 false) neg) rfl ⟨wR,wR,wR,wR,wR,trivial⟩ ⟨hO1 rfl,hO1 (by rw [hn0]; rfl),hO1 (by kernel_rfl),hO1 (by rw [hneg]; rfl),trivial⟩ ?_
   clear hneg e0 e1 hn0 h h0 hlt
   revert n0 neg
   exact H.out
  ·have hneg : neg = false := by
    rw [← e1]
    simp only [negF,beq_eq_false_iff_ne,ne_eq]
    intro e
    exact h (by rw [Nat.add_zero,e]; rfl)
   have hn0 : n0 = n := by rw [← e0,hneg]; rfl
   have hle : n0 ≤ s.length := by omega
   refine cutR 121 (clsSlots 0 |>.take 5) (clsObjs s n0 (List.replicate 256 false) neg) rfl ⟨wR,wR,wR,wR,wR,trivial⟩ ⟨hO1 rfl,hO1 (by rw [hn0]; rfl),hO1 (by kernel_rfl),hO1 (by rw [hneg]; rfl),trivial⟩ ?_
   clear hneg e0 e1 hn0 h
   revert n0 neg
   exact H.out
 case rest =>
  intro neg n0 hle
  generalize hX : clsGo s (s.length + 1) n0 (List.replicate 256 false) 0 = X
  refine loopR 121 (fun x : Nat × List Bool × Nat => clsSlots x.2.2) (fun x => clsObjs s x.1 x.2.1 neg) (fun x => x.1 ≤ s.length ∧ x.2.1.length = 256 ∧ x.2.2 ≤ x.1 ∧ ∃ f,s.length + 1 - x.1 ≤ f ∧ clsGo s f x.1 x.2.1 x.2.2 = X) (fun x => s.length + 1 - x.1)
   (n0,List.replicate 256 false,0) ⟨hle,List.length_replicate,Nat.zero_le _,s.length + 1,by simp only; omega,hX⟩ rfl ⟨wR,wR,wR,wR,wR,wR,trivial⟩ ⟨hO1 rfl,hO1 rfl,hO1 rfl,hO1 rfl,trivial⟩ ?_
  clear hX hle n0
  rintro ⟨m,set,k⟩ ⟨hm,hset,hk,f,hf,hX⟩
  have hm : m ≤ s.length := hm
  have hset : set.length = 256 := hset
  have hk : k ≤ m := hk
  have hf : s.length + 1 - m ≤ f := hf
  have hX : clsGo s f m set k = X := hX
  obtain ⟨f,rfl⟩ : ∃ f',f = f' + 1 := ⟨f - 1,by omega⟩
  rcases hq : s[m]? with _ | c
  ·have hp : peekF s (m + 0) = (0,false) := peekF_none hq
   refine .inr (.inr ⟨_,(peek_ok s m 0 (by omega) (by omega) (by omega)).opn,?_⟩)
   rintro r ys ⟨hr,rfl⟩
   rw [hp] at hr
   subst hr
   refine al_not ?_
   have hx : X = none := by rw [← hX]; simp only [clsGo,hq]
   rw [hx]
   exact ⟨rfl,rfl,m,hm,rfl⟩
  have hm1 : m < s.length := (List.getElem?_eq_some_iff.1 hq).1
  have hp : peekF s (m + 0) = (c,true) := peekF_some hq
  have hw1 : IntKind.i64.wrap ((m : Int) + 1) = ((m + 1 : Nat) : Int) := by rw [wrap64 (by omega) (by omega)]; omega
  refine .inr (.inr ⟨_,(peek_ok s m 0 (by omega) (by omega) (by omega)).opn,?_⟩)
  rintro r ys ⟨hr,rfl⟩
  rw [hp] at hr
  subst hr
  refine al_not ?_
  refine al_eq (fun h93 => ?_) (fun h93 => ?_)
  ·have hc : c = 93 := u8_eq h93
   have hx : X = some (set,k,m + 1) := by rw [← hX]; simp only [clsGo,hq,hc,if_true]
   rw [hx]
   refine ⟨_,hw1,?_⟩
   refine ⟨[4,7],frz_one (cells := encSet set) (ys := set.map AV.bool) rfl (toAVs_mapP _) (allOne_set _) (frz_one (cells := [.p (.bool neg)]) (ys := [.bool neg]) rfl rfl rfl ?_)⟩
   refine ⟨none,?_⟩
   refine al_dec (fun hk0 => ?_) (fun hk0 => ?_)
   ·refine ⟨_,(some_ok set neg hset).opn,fun r hr => ?_⟩
    subst hr
    have : (decide (0 < k) && someC set neg) = someC set neg := by
     have hk0 : 0 < (k : Int) := hk0
     have : decide (0 < k) = true := by simp; omega
     rw [this,Bool.true_and]
    simp only [clsE,this]
    exact ⟨rfl,rfl,rfl⟩
   ·have : (decide (0 < k) && someC set neg) = false := by
     have hk0 : ¬ 0 < (k : Int) := hk0
     have : decide (0 < k) = false := by simp; omega
     rw [this,Bool.false_and]
    simp only [clsE,this]
    exact ⟨rfl,rfl,rfl⟩
  ·have hc : c ≠ 93 := fun e => h93 (by rw [e]; rfl)
   refine .inr (.inr ⟨_,(plain_ok s m (by omega) hm).opn,?_⟩)
   rintro r ys ⟨hr,rfl⟩
   have hple := plainF_le s m hm
   obtain ⟨lo,ok,n1,hpl⟩ : ∃ lo ok n1,plainF s m = (lo,ok,n1) := ⟨_,_,_,rfl⟩
   rw [hpl] at hple hr ⊢
   subst hr
   have hn1 : n1 ≤ s.length := hple.2.1
   have hmn1 : m ≤ n1 := hple.1
   have hok1 : ok = true → m < n1 := hple.2.2
   refine cutR 121 (clsS k [(11,.p (.int .u8 lo.toNat)),(12,.p (.bool ok))]) (clsObjs s n1 set neg) rfl ⟨wR,wR,wR,wR,wR,wR,wR,wR,trivial⟩ ⟨hO1 rfl,hO1 rfl,hO1 rfl,hO1 rfl,trivial⟩ ?_
   obtain ⟨mid,mok,hmid⟩ : ∃ mid mok,peekF s (n1 + 0) = (mid,mok) := ⟨_,_,rfl⟩
   obtain ⟨nx,two,hnx⟩ : ∃ nx two,peekF s (n1 + 1) = (nx,two) := ⟨_,_,rfl⟩
   refine .inr (.inr ⟨_,(peek_ok s n1 0 (by omega) (by omega) (by omega)).opn,?_⟩)
   rintro r ys ⟨hr,rfl⟩
   rw [hmid] at hr
   subst hr
   refine .inr (.inr ⟨_,(peek_ok s n1 1 (by omega) (by omega) (by omega)).opn,?_⟩)
   rintro r ys ⟨hr,rfl⟩
   rw [hnx] at hr
   subst hr
   refine cutR 121 (clsS k [(11,.p (.int .u8 lo.toNat)),(12,.p (.bool ok)),(13,.p (.int .u8 lo.toNat)),(14,.p (.int .u8 mid.toNat)),(16,.p (.int .u8 nx.toNat)),(17,.p (.bool two))]) (clsObjs s n1 set neg) rfl
    ⟨wR,wR,wR,wR,wR,wR,wR,wR,wR,wR,wR,wR,trivial⟩ ⟨hO1 rfl,hO1 rfl,hO1 rfl,hO1 rfl,trivial⟩ ?_
   rw [Nat.add_zero] at hmid
   have hw2 : IntKind.i64.wrap ((n1 : Int) + 1) = ((n1 + 1 : Nat) : Int) := by rw [wrap64 (by omega) (by omega)]; omega
   refine share (T := ?T2) (fun H => ?m2) ?r2
   case m2 =>
    refine ⟨none,?_⟩
    by_cases hok : ok = true
    ·rw [hok]
     refine al_eq (fun h45 => ?_) (fun h45 => ?_)
     ·have hc45 : mid = 45 := u8_eq h45
      by_cases htwo : two = true
      ·rw [htwo]
       refine al_ne (fun hn93 => ?_) (fun hn93 => ?_)
       ·have hx93 : nx ≠ 93 := fun e => hn93 (by rw [e]; rfl)
        have hlt1 : n1 + 1 < s.length := peekF_lt (by rw [hnx]; exact htwo)
        refine ⟨_,hw2,?_⟩
        refine .inr (.inr ⟨_,(plain_ok s (n1 + 1) (by omega) (by omega)).opn,?_⟩)
        rintro r ys ⟨hr,rfl⟩
        obtain ⟨hi,ok2,n2,hh⟩ : ∃ hi ok2 n2,hiF s lo ok n1 = (hi,ok2,n2) := ⟨_,_,_,rfl⟩
        have hp2 : plainF s (n1 + 1) = (hi,ok2,n2) := by
         rw [← hh]
         unfold hiF
         rw [hmid,hnx,if_pos ⟨hok,hc45,htwo,hx93⟩]
        rw [hp2] at hr ⊢
        subst hr
        refine cutR 121 (clsS k [(11,.p (.int .u8 lo.toNat)),(12,.p (.bool ok2)),(13,.p (.int .u8 hi.toNat))]) (clsObjs s n2 set neg) rfl ⟨wR,wR,wR,wR,wR,wR,wR,wR,wR,trivial⟩ ⟨hO1 rfl,hO1 rfl,hO1 rfl,hO1 rfl,trivial⟩ ?_
        clear hp2
        revert hi ok2 n2
        exact H.out
       ·have hx93 : nx = 93 := u8_eq hn93
        have hh : hiF s lo ok n1 = (lo,true,n1) := by
         unfold hiF
         rw [hmid,hnx,if_neg (fun e => e.2.2.2 hx93),hok]
        refine cutR 121 (clsS k [(11,.p (.int .u8 lo.toNat)),(12,.p (.bool true)),(13,.p (.int .u8 lo.toNat))]) (clsObjs s n1 set neg) rfl ⟨wR,wR,wR,wR,wR,wR,wR,wR,wR,trivial⟩ ⟨hO1 rfl,hO1 rfl,hO1 rfl,hO1 rfl,trivial⟩ ?_
        exact H.out lo true n1 hh
      ·have htwo : two = false := by simpa using htwo
       rw [htwo]
       have hh : hiF s lo ok n1 = (lo,true,n1) := by
        unfold hiF
        rw [hmid,hnx,htwo,if_neg (fun e => by cases e.2.2.1),hok]
       refine cutR 121 (clsS k [(11,.p (.int .u8 lo.toNat)),(12,.p (.bool true)),(13,.p (.int .u8 lo.toNat))]) (clsObjs s n1 set neg) rfl ⟨wR,wR,wR,wR,wR,wR,wR,wR,wR,trivial⟩ ⟨hO1 rfl,hO1 rfl,hO1 rfl,hO1 rfl,trivial⟩ ?_
       exact H.out lo true n1 hh
     ·have hc45 : mid ≠ 45 := fun e => h45 (by rw [e]; rfl)
      have hh : hiF s lo ok n1 = (lo,true,n1) := by
       unfold hiF
       rw [hmid,hnx,if_neg (fun e => hc45 e.2.1),hok]
      refine cutR 121 (clsS k [(11,.p (.int .u8 lo.toNat)),(12,.p (.bool true)),(13,.p (.int .u8 lo.toNat))]) (clsObjs s n1 set neg) rfl ⟨wR,wR,wR,wR,wR,wR,wR,wR,wR,trivial⟩ ⟨hO1 rfl,hO1 rfl,hO1 rfl,hO1 rfl,trivial⟩ ?_
      exact H.out lo true n1 hh
    ·have hok : ok = false := by simpa using hok
     rw [hok]
     have hh : hiF s lo ok n1 = (lo,false,n1) := by
      unfold hiF
      rw [hmid,hnx,if_neg (fun e => by rw [hok] at e; cases e.1),hok]
     refine cutR 121 (clsS k [(11,.p (.int .u8 lo.toNat)),(12,.p (.bool false)),(13,.p (.int .u8 lo.toNat))]) (clsObjs s n1 set neg) rfl ⟨wR,wR,wR,wR,wR,wR,wR,wR,wR,trivial⟩ ⟨hO1 rfl,hO1 rfl,hO1 rfl,hO1 rfl,trivial⟩ ?_
     exact H.out lo false n1 hh
   case r2 =>
    intro hi ok2 n2 hh
    have hle2 := hiF_le s lo ok n1 hn1
    have hok2 := hiF_ok (s := s) (lo := lo) (ok := ok) (n := n1)
    rw [hh] at hle2 hok2
    have hle3 : n1 ≤ n2 := hle2.1
    have hle4 : n2 ≤ s.length := hle2.2
    refine ⟨none,?_⟩
    cases ok2 with
    | false =>
      refine al_not ?_
      have hx : X = none := by
       rw [← hX]
       simp only [clsGo,hq,hc,if_false,hpl,hh,true_or,if_true]
      rw [hx]
      exact ⟨rfl,rfl,n2,hle4,rfl⟩
    | true =>
      have hmn2 : m < n2 := by have := hok1 (hok2 rfl); omega
      refine al_not ?_
      refine al_dec (fun hgt => ?_) (fun hgt => ?_)
      ·have hlt2 : hi.toNat < lo.toNat := by omega
       have hx : X = none := by
        rw [← hX]
        simp only [clsGo,hq,hc,if_false,hpl,hh,hlt2,or_true,if_true]
       rw [hx]
       exact ⟨rfl,rfl,n2,hle4,rfl⟩
      ·have hge2 : ¬ hi.toNat < lo.toNat := by omega
       have hX2 : clsGo s f n2 (fillN set lo.toNat (hi.toNat + 1 - lo.toNat)) (k + 1) = X := by
        rw [← hX]
        simp only [clsGo,hq,hc,if_false,hpl,hh,hge2,Bool.true_eq_false,or_self]
       have hhi : hi.toNat < 256 := hi.toNat_lt
       refine ⟨((lo.toNat + 0 : Nat) : Int),by rw [wrap64 (by omega) (by omega)]; rfl,?_⟩
       refine loopR 121 (fun j : Nat => clsS k [(13,.p (.int .u8 hi.toNat)),(18,.p (.int .i64 ((lo.toNat + j : Nat) : Int)))]) (fun j => clsObjs s n2 (fillN set lo.toNat j) neg) (fun j => j ≤ hi.toNat + 1 - lo.toNat) (fun j => hi.toNat + 1 - lo.toNat - j) 0 (Nat.zero_le _) rfl
        ⟨wR,wR,wR,wR,wR,wR,wR,wR,trivial⟩ ⟨hO1 rfl,hO1 rfl,hO1 rfl,hO1 rfl,trivial⟩ ?_
       intro j hj
       have hj : j ≤ hi.toNat + 1 - lo.toNat := hj
       have hwh : IntKind.i64.wrap ((hi.toNat : Nat) : Int) = ((hi.toNat : Nat) : Int) := wrap64 (by omega) (by omega)
       refine ⟨_,hwh,?_⟩
       refine al_dec (fun hlej => ?_) (fun hlej => ?_)
       ·have hlej : ((lo.toNat + j : Nat) : Int) ≤ ((hi.toNat : Nat) : Int) := hlej
        have hlen : (fillN set lo.toNat j).length = 256 := by rw [fillN_length]; exact hset
        refine ⟨lo.toNat + j,rfl,by omega,true,_,rfl,?_⟩
        have hij : lo.toNat + j < (fillN set lo.toNat j).length := by omega
        refine ⟨_,_,_,encSet_split hij,by rw [encSet_length,List.length_take,Nat.min_eq_left (by omega)]; show lo.toNat + j = 0 + (lo.toNat + j) * 1; omega,_,encSet_set hij,?_⟩
        have hwj : IntKind.i64.wrap (((lo.toNat + j : Nat) : Int) + 1) = ((lo.toNat + (j + 1) : Nat) : Int) := by rw [wrap64 (by omega) (by omega)]; omega
        refine ⟨_,hwj,?_⟩
        refine roundR (j + 1) (by show j + 1 ≤ _; omega) (by show _ < _; omega) rfl ⟨wR,wR,wR,wR,wR,wR,wR,wR,trivial⟩ ⟨hO1 rfl,hO1 rfl,hO1 (by rw [fillN_next]; rfl),hO1 rfl,trivial⟩
       ·have hlej : ¬ ((lo.toNat + j : Nat) : Int) ≤ ((hi.toNat : Nat) : Int) := hlej
        have hje : j = hi.toNat + 1 - lo.toNat := by omega
        refine ⟨((k + 1 : Nat) : Int),by rw [wrap64 (by omega) (by omega)]; omega,?_⟩
        refine roundR (n2,fillN set lo.toNat (hi.toNat + 1 - lo.toNat),k + 1) ⟨hle4,by simp only [fillN_length]; exact hset,by show k + 1 ≤ n2; omega,f,by show s.length + 1 - n2 ≤ f; omega,hX2⟩ (by show s.length + 1 - n2 < s.length + 1 - m; omega) rfl
         ⟨wR,wR,wR,wR,wR,wR,trivial⟩ ⟨hO1 rfl,hO1 rfl,hO1 (by rw [← hje]; rfl),hO1 rfl,trivial⟩
end Qv

end

section
open Go Go.Proofs
namespace Qv
inductive Atom where
 | bad
 | star
 | any
 | lit (c : UInt8)
 | cls (set : List Bool) (neg : Bool)
def Atom.enc : Atom → List AV
 | .bad => zero109
 | .star => [.bool true,.bool false,.int .u8 0,.nilf]
 | .any => [.bool false,.bool false,.int .u8 0,.fn (.func 204) [] []]
 | .lit c => [.bool false,.bool true,.int .u8 c.toNat,.fn (.func 207) [] [.imp [.int .u8 c.toNat]]]
 | .cls set neg => [.bool false,.bool false,.int .u8 0,clsFn set neg]
def Atom.fine : Atom → Prop
 | .cls set _ => set.length = 256
 | .bad => False
 | _ => True
def oneF (s : Bytes) (n : Nat) : Option (Atom × Nat) :=
 match s[n]? with
 | none => none
 | some c =>
   if c = 42 then some (.star,n + 1)
   else if c = 63 then some (.any,n + 1)
   else if c = 91 then match clsF s (n + 1) with
    | some (set,neg,true,n') => some (.cls set neg,n')
    | _ => none
   else match plainF s n with
    | (d,true,n') => some (.lit d,n')
    | _ => none
def oneR (s : Bytes) : Option (Atom × Nat) → AV → List AV → Prop
 | none,r,ys => ∃ a : Atom,r = .tup [.agg a.enc,.bool false] ∧ ∃ m,m ≤ s.length ∧ ys = encP s m
 | some (a,n'),r,ys => r = .tup [.agg a.enc,.bool true] ∧ ys = encP s n'
theorem clsGo_le (s : Bytes) : ∀ (f n : Nat) (set : List Bool) (k : Nat) (set' : List Bool) (k' n' : Nat),clsGo s f n set k = some (set',k',n') → n < n' ∧ n' ≤ s.length ∧ set'.length = set.length
 | 0,_,_,_,_,_,_,h => by simp [clsGo] at h
 | f + 1,n,set,k,set',k',n',h => by
   simp only [clsGo] at h
   split at h
   ·cases h
   ·rename_i c hc
    have hlt := (List.getElem?_eq_some_iff.1 hc).1
    split at h
    ·injection h with h
     injection h with h1 h2
     injection h2 with h2 h3
     subst h1; subst h3
     exact ⟨by omega,by omega,rfl⟩
    ·split at h
     ·cases h
     ·have h1 := plainF_le s n (by omega)
      have h2 := hiF_le s (plainF s n).1 (plainF s n).2.1 (plainF s n).2.2 h1.2.1
      obtain ⟨h3,h4,h5⟩ := clsGo_le s f _ _ _ _ _ _ h
      exact ⟨by omega,h4,by rw [h5,fillN_length]⟩
theorem clsF_le {s : Bytes} {n : Nat} {set : List Bool} {neg ok : Bool} {n' : Nat} (h : clsF s n = some (set,neg,ok,n')) : n < n' ∧ n' ≤ s.length ∧ set.length = 256 := by
 rw [clsF_eq] at h
 cases hq : clsGo s (s.length + 1) (if negF s n then n + 1 else n) (List.replicate 256 false) 0 with
 | none => rw [hq] at h; cases h
 | some x =>
   obtain ⟨set',k,n2⟩ := x
   rw [hq] at h
   simp only [clsE,Option.some.injEq,Prod.mk.injEq] at h
   obtain ⟨rfl,-,-,rfl⟩ := h
   obtain ⟨h1,h2,h3⟩ := clsGo_le _ _ _ _ _ _ _ _ hq
   refine ⟨?_,h2,by rw [h3,List.length_replicate]⟩
   split at h1 <;> omega
theorem one_ok (s : Bytes) (n : Nat) (hs : s.length ≤ 2 ^ 30) (hn : n < s.length) : ObjTo C 185 (encP s n) [] (oneR s (oneF s n)) := by
 obtain ⟨c,hc⟩ : ∃ c,s[n]? = some c := ⟨_,List.getElem?_eq_getElem hn⟩
 have hw : IntKind.i64.wrap ((n : Int) + 1) = ((n + 1 : Nat) : Int) := by rw [wrap64 (by omega) (by omega)]; omega
 refine objTo_of_evO ⟨[],[],false,[],[],[]⟩ [] Tryz.func185 rfl rfl rfl ?_
 refine ⟨.lex 9,by kernel_rfl,_,rfl,_,rfl,_,rfl,_,rfl,_,rfl,_,rfl,_,rfl,_,rfl,.p (.int .u8 c.toNat),⟨by omega,c,idx_str rfl hc,rfl⟩,?_⟩
 refine al_eq (fun h => ?_) (fun h => ?_)
 ·have : c = 42 := u8_eq h
  have ho : oneF s n = some (.star,n + 1) := by simp only [oneF,hc,this,if_true]
  rw [ho]
  exact ⟨_,hw,rfl,rfl,rfl⟩
 have n42 : c ≠ 42 := fun e => h (by rw [e]; rfl)
 refine al_eq (fun h => ?_) (fun h => ?_)
 ·have : c = 63 := u8_eq h
  have ho : oneF s n = some (.any,n + 1) := by simp only [oneF,hc,n42,this,if_true]; rfl
  rw [ho]
  exact ⟨_,hw,rfl,rfl,rfl⟩
 have n63 : c ≠ 63 := fun e => h (by rw [e]; rfl)
 refine al_eq (fun h => ?_) (fun h => ?_)
 ·have h91 : c = 91 := u8_eq h
  refine ⟨_,hw,?_⟩
  refine .inr (.inr ⟨_,(class_ok s (n + 1) hs (by omega)).opn,?_⟩)
  intro r ys hr
  rcases hq : clsF s (n + 1) with _ | ⟨set,neg,ok,n'⟩
  ·have ho : oneF s n = none := by simp only [oneF,hc,n42,n63,h91,hq,if_true]; rfl
   rw [hq] at hr
   obtain ⟨rfl,m,hm,rfl⟩ := hr
   rw [ho]
   exact ⟨rfl,.bad,rfl,m,hm,rfl⟩
  ·rw [hq] at hr
   obtain ⟨rfl,rfl⟩ := hr
   have hle := clsF_le hq
   cases ok with
   | true =>
     have ho : oneF s n = some (.cls set neg,n') := by simp only [oneF,hc,n42,n63,h91,hq,if_true]; rfl
     rw [ho]
     exact ⟨rfl,rfl,rfl⟩
   | false =>
     have ho : oneF s n = none := by simp only [oneF,hc,n42,n63,h91,hq,if_true]; rfl
     rw [ho]
     exact ⟨rfl,.cls set neg,rfl,n',hle.2.1,rfl⟩
 have n91 : c ≠ 91 := fun e => h (by rw [e]; rfl)
 refine .inr (.inr ⟨_,(plain_ok s n (by omega) (by omega)).opn,?_⟩)
 rintro r ys ⟨hr,rfl⟩
 have hple := plainF_le s n (by omega)
 rcases hq : plainF s n with ⟨d,ok,n'⟩
 rw [hq] at hr hple
 subst hr
 refine ⟨[5],frz_one (cells := [.p (.int .u8 d.toNat)]) (ys := [.int .u8 d.toNat]) rfl rfl rfl ?_⟩
 cases ok with
 | true =>
   have ho : oneF s n = some (.lit d,n') := by simp only [oneF,hc,n42,n63,n91,hq,if_false]
   rw [ho]
   exact ⟨rfl,rfl,rfl⟩
 | false =>
   have ho : oneF s n = none := by simp only [oneF,hc,n42,n63,n91,hq,if_false]
   rw [ho]
   exact ⟨rfl,.lit d,rfl,n',hple.2.1,rfl⟩
end Qv

end

section
namespace Go.Proofs
open Go.Shelf
def Tryz.lays169_ren : Go.Shelf.Ren := ⟨fun | 169 => 170 | n => n,fun | 70 => 158 | 9 => 9 | 0 => 0 | 72 => 160 | 37 => 120 | 127 => 209 | 3 => 3 | 5 => 5 | n => n,fun | n => n⟩
theorem Tryz.lays169 : Go.Proofs.Lays.n169 Tryz.prog Tryz.lays169_ren := {
 mixed := by kernel_rfl
 f169 := Tryz.func170.trans (congrArg some (by kernel_rfl))
 t0 := Tryz.underlying0
 a0 := Tryz.isAgg0
 z0 := Tryz.sizeOf0
 v0 := Tryz.zeroValue0
 t3 := Tryz.underlying3
 a3 := Tryz.isAgg3
 z3 := Tryz.sizeOf3
 v3 := Tryz.zeroValue3
 t9 := Tryz.underlying9
 a9 := Tryz.isAgg9
 z9 := Tryz.sizeOf9
 v9 := Tryz.zeroValue9
 t37 := Tryz.underlying120
 a37 := Tryz.isAgg120
 z37 := Tryz.sizeOf120
 v37 := Tryz.zeroValue120
 t70 := Tryz.underlying158
 a70 := Tryz.isAgg158
 z70 := Tryz.sizeOf158
 v70 := Tryz.zeroValue158
 t72 := Tryz.underlying160
 a72 := Tryz.isAgg160
 z72 := Tryz.sizeOf160
 v72 := Tryz.zeroValue160
 t127 := Tryz.underlying209
 a127 := Tryz.isAgg209
 z127 := Tryz.sizeOf209
 v127 := Tryz.zeroValue209 }
theorem Tryz.Builder_Extra_169 : Builder.Extra Tryz.prog Tryz.lays169_ren := {
 sizeBuilder := by kernel_rfl
 liesBuilder := by kernel_rfl
 t5 := Tryz.underlying5
 a5 := Tryz.isAgg5
 z5 := Tryz.sizeOf5
 v5 := Tryz.zeroValue5
 infoByte := by kernel_rfl
 cellsByte := by kernel_rfl
 sizeByte := by kernel_rfl
 neB5 := by decide }
def Tryz.laysM171_ren : Go.Shelf.Ren := ⟨fun | 171 => 108 | 243 => 150 | 246 => 169 | 283 => 194 | 284 => 195 | 285 => 196 | 286 => 197 | 129 => 218 | 317 => 217 | 318 => 219 | 319 => 220 | 320 => 221 | 337 => 242 | 338 => 243 | n => n,fun | 3 => 3 | 9 => 9 | 2 => 2 | 4 => 4 | 171 => 203 | 0 => 0 | 53 => 204 | 37 => 120 | 5 => 5 | 173 => 207 | 212 => 233 | 51 => 143 | 20 => 20 | 213 => 234 | 46 => 172 | 232 => 277 | 233 => 278 | n => n,fun | 17 => 4 | 18 => 7 | 19 => 8 | n => n⟩
theorem Tryz.laysM171 : Go.Proofs.LaysM.n171 Tryz.prog Tryz.laysM171_ren := {
 mixed := by kernel_rfl
 f129 := Tryz.func218.trans (congrArg some (by kernel_rfl))
 f171 := Tryz.func108.trans (congrArg some (by kernel_rfl))
 f243 := Tryz.func150.trans (congrArg some (by kernel_rfl))
 f246 := Tryz.func169.trans (congrArg some (by kernel_rfl))
 f283 := Tryz.func194.trans (congrArg some (by kernel_rfl))
 f284 := Tryz.func195.trans (congrArg some (by kernel_rfl))
 f285 := Tryz.func196.trans (congrArg some (by kernel_rfl))
 f286 := Tryz.func197.trans (congrArg some (by kernel_rfl))
 f317 := Tryz.func217.trans (congrArg some (by kernel_rfl))
 f318 := Tryz.func219.trans (congrArg some (by kernel_rfl))
 f319 := Tryz.func220.trans (congrArg some (by kernel_rfl))
 f320 := Tryz.func221.trans (congrArg some (by kernel_rfl))
 f337 := Tryz.func242.trans (congrArg some (by kernel_rfl))
 f338 := Tryz.func243.trans (congrArg some (by kernel_rfl))
 t0 := Tryz.underlying0
 a0 := Tryz.isAgg0
 z0 := Tryz.sizeOf0
 v0 := Tryz.zeroValue0
 t2 := Tryz.underlying2
 a2 := Tryz.isAgg2
 z2 := Tryz.sizeOf2
 v2 := Tryz.zeroValue2
 t3 := Tryz.underlying3
 a3 := Tryz.isAgg3
 z3 := Tryz.sizeOf3
 v3 := Tryz.zeroValue3
 t4 := Tryz.underlying4
 a4 := Tryz.isAgg4
 z4 := Tryz.sizeOf4
 v4 := Tryz.zeroValue4
 t5 := Tryz.underlying5
 a5 := Tryz.isAgg5
 z5 := Tryz.sizeOf5
 v5 := Tryz.zeroValue5
 t9 := Tryz.underlying9
 a9 := Tryz.isAgg9
 z9 := Tryz.sizeOf9
 v9 := Tryz.zeroValue9
 t20 := Tryz.underlying20
 a20 := Tryz.isAgg20
 z20 := Tryz.sizeOf20
 v20 := Tryz.zeroValue20
 t37 := Tryz.underlying120
 a37 := Tryz.isAgg120
 z37 := Tryz.sizeOf120
 v37 := Tryz.zeroValue120
 t46 := Tryz.underlying172
 a46 := Tryz.isAgg172
 z46 := Tryz.sizeOf172
 v46 := Tryz.zeroValue172
 t51 := Tryz.underlying143
 a51 := Tryz.isAgg143
 z51 := Tryz.sizeOf143
 v51 := Tryz.zeroValue143
 t53 := Tryz.underlying204
 a53 := Tryz.isAgg204
 z53 := Tryz.sizeOf204
 v53 := Tryz.zeroValue204
 t171 := Tryz.underlying203
 a171 := Tryz.isAgg203
 z171 := Tryz.sizeOf203
 v171 := Tryz.zeroValue203
 t173 := Tryz.underlying207
 a173 := Tryz.isAgg207
 z173 := Tryz.sizeOf207
 v173 := Tryz.zeroValue207
 t212 := Tryz.underlying233
 a212 := Tryz.isAgg233
 z212 := Tryz.sizeOf233
 v212 := Tryz.zeroValue233
 t213 := Tryz.underlying234
 a213 := Tryz.isAgg234
 z213 := Tryz.sizeOf234
 t232 := Tryz.underlying277
 a232 := Tryz.isAgg277
 z232 := Tryz.sizeOf277
 v232 := Tryz.zeroValue277
 t233 := Tryz.underlying278
 a233 := Tryz.isAgg278
 z233 := Tryz.sizeOf278
 v233 := Tryz.zeroValue278
 g17 := by kernel_rfl
 g18 := by kernel_rfl
 g19 := by kernel_rfl
 i0 := by kernel_rfl
 i2 := by kernel_rfl
 i3 := by kernel_rfl
 i4 := by kernel_rfl
 i5 := by kernel_rfl
 i9 := by kernel_rfl
 i20 := by kernel_rfl
 i37 := by kernel_rfl
 i46 := by kernel_rfl
 i51 := by kernel_rfl
 i53 := by kernel_rfl
 i171 := by kernel_rfl
 i173 := by kernel_rfl
 i212 := by kernel_rfl
 i232 := by kernel_rfl
 i233 := by kernel_rfl
 m17 := by kernel_rfl
 m18 := by kernel_rfl
 m19 := by kernel_rfl }
open Go.RowKit Go.Sort Go.Lib in
theorem Tryz.strconv_Itoa (n : Int) (h0 : -9223372036854775808 ≤ n) (h1 : n ≤ 9223372036854775807) (w : World) (htab : Lib.TabIs Tryz.prog w "internal/strconv.uint64pow10" .u64 Lib.pow10Tab) :
 Calls Tryz.prog 108 #[.int .i64 n] w fun e w' => e = .returned (.string ⟨(Lib.itoa n).toArray⟩) ∧ ∃ k os,w' = grow (w.drewN k) os := Any.strconv_Itoa Tryz.laysM171 n h0 h1 w htab
def Tryz.laysC172_ren : Go.Shelf.Ren := ⟨fun | 172 => 172 | 244 => 199 | 245 => 200 | 247 => 223 | 279 => 224 | 280 => 225 | 281 => 226 | 282 => 227 | 287 => 244 | 316 => 245 | 171 => 108 | 205 => 246 | 321 => 259 | 322 => 260 | 243 => 150 | 246 => 169 | 283 => 194 | 284 => 195 | 285 => 196 | 286 => 197 | 129 => 218 | 317 => 217 | 318 => 219 | 319 => 220 | 320 => 221 | 337 => 242 | 338 => 243 | n => n,fun | 9 => 9 | 3 => 3 | 75 => 162 | 76 => 164 | 4 => 4 | 5 => 5 | 167 => 238 | 37 => 120 | 0 => 0 | 85 => 239 | 2 => 2 | 168 => 241 | 53 => 204 | 175 => 263 | 46 => 172 | 210 => 266 | 127 => 209 | 145 => 282 | 143 => 280 | 21 => 21 | 171 => 203 | 173 => 207 | 212 => 233 | 51 => 143 | 20 => 20 | 213 => 234 | 232 => 277 | 233 => 278 | 80 => 107 | n => n,fun | 15 => 5 | 16 => 6 | 17 => 4 | 18 => 7 | 19 => 8 | n => n⟩
theorem Tryz.laysC172 : Go.Proofs.LaysC.n172 Tryz.prog Tryz.laysC172_ren := {
 mixed := by kernel_rfl
 f129 := Tryz.func218.trans (congrArg some (by kernel_rfl))
 f171 := Tryz.func108.trans (congrArg some (by kernel_rfl))
 f172 := Tryz.func172.trans (congrArg some (by kernel_rfl))
 f205 := Tryz.func246.trans (congrArg some (by kernel_rfl))
 f243 := Tryz.func150.trans (congrArg some (by kernel_rfl))
 f244 := Tryz.func199.trans (congrArg some (by kernel_rfl))
 f245 := Tryz.func200.trans (congrArg some (by kernel_rfl))
 f246 := Tryz.func169.trans (congrArg some (by kernel_rfl))
 f247 := Tryz.func223.trans (congrArg some (by kernel_rfl))
 f279 := Tryz.func224.trans (congrArg some (by kernel_rfl))
 f280 := Tryz.func225.trans (congrArg some (by kernel_rfl))
 f281 := Tryz.func226.trans (congrArg some (by kernel_rfl))
 f282 := Tryz.func227.trans (congrArg some (by kernel_rfl))
 f283 := Tryz.func194.trans (congrArg some (by kernel_rfl))
 f284 := Tryz.func195.trans (congrArg some (by kernel_rfl))
 f285 := Tryz.func196.trans (congrArg some (by kernel_rfl))
 f286 := Tryz.func197.trans (congrArg some (by kernel_rfl))
 f287 := Tryz.func244.trans (congrArg some (by kernel_rfl))
 f316 := Tryz.func245.trans (congrArg some (by kernel_rfl))
 f317 := Tryz.func217.trans (congrArg some (by kernel_rfl))
 f318 := Tryz.func219.trans (congrArg some (by kernel_rfl))
 f319 := Tryz.func220.trans (congrArg some (by kernel_rfl))
 f320 := Tryz.func221.trans (congrArg some (by kernel_rfl))
 f321 := Tryz.func259.trans (congrArg some (by kernel_rfl))
 f322 := Tryz.func260.trans (congrArg some (by kernel_rfl))
 f337 := Tryz.func242.trans (congrArg some (by kernel_rfl))
 f338 := Tryz.func243.trans (congrArg some (by kernel_rfl))
 t0 := Tryz.underlying0
 a0 := Tryz.isAgg0
 z0 := Tryz.sizeOf0
 v0 := Tryz.zeroValue0
 t2 := Tryz.underlying2
 a2 := Tryz.isAgg2
 z2 := Tryz.sizeOf2
 v2 := Tryz.zeroValue2
 t3 := Tryz.underlying3
 a3 := Tryz.isAgg3
 z3 := Tryz.sizeOf3
 v3 := Tryz.zeroValue3
 t4 := Tryz.underlying4
 a4 := Tryz.isAgg4
 z4 := Tryz.sizeOf4
 v4 := Tryz.zeroValue4
 t5 := Tryz.underlying5
 a5 := Tryz.isAgg5
 z5 := Tryz.sizeOf5
 v5 := Tryz.zeroValue5
 t9 := Tryz.underlying9
 a9 := Tryz.isAgg9
 z9 := Tryz.sizeOf9
 v9 := Tryz.zeroValue9
 t20 := Tryz.underlying20
 a20 := Tryz.isAgg20
 z20 := Tryz.sizeOf20
 v20 := Tryz.zeroValue20
 t21 := Tryz.underlying21
 a21 := Tryz.isAgg21
 z21 := Tryz.sizeOf21
 v21 := Tryz.zeroValue21
 t37 := Tryz.underlying120
 a37 := Tryz.isAgg120
 z37 := Tryz.sizeOf120
 v37 := Tryz.zeroValue120
 t46 := Tryz.underlying172
 a46 := Tryz.isAgg172
 z46 := Tryz.sizeOf172
 v46 := Tryz.zeroValue172
 t51 := Tryz.underlying143
 a51 := Tryz.isAgg143
 z51 := Tryz.sizeOf143
 v51 := Tryz.zeroValue143
 t53 := Tryz.underlying204
 a53 := Tryz.isAgg204
 z53 := Tryz.sizeOf204
 v53 := Tryz.zeroValue204
 t75 := Tryz.underlying162
 a75 := Tryz.isAgg162
 z75 := Tryz.sizeOf162
 v75 := Tryz.zeroValue162
 t76 := Tryz.underlying164
 a76 := Tryz.isAgg164
 z76 := Tryz.sizeOf164
 v76 := Tryz.zeroValue164
 t85 := Tryz.underlying239
 a85 := Tryz.isAgg239
 z85 := Tryz.sizeOf239
 v85 := Tryz.zeroValue239
 t127 := Tryz.underlying209
 a127 := Tryz.isAgg209
 z127 := Tryz.sizeOf209
 v127 := Tryz.zeroValue209
 t143 := Tryz.underlying280
 a143 := Tryz.isAgg280
 z143 := Tryz.sizeOf280
 v143 := Tryz.zeroValue280
 t145 := Tryz.underlying282
 a145 := Tryz.isAgg282
 z145 := Tryz.sizeOf282
 v145 := Tryz.zeroValue282
 t167 := Tryz.underlying238
 a167 := Tryz.isAgg238
 z167 := Tryz.sizeOf238
 v167 := Tryz.zeroValue238
 t168 := Tryz.underlying241
 a168 := Tryz.isAgg241
 z168 := Tryz.sizeOf241
 v168 := Tryz.zeroValue241
 t171 := Tryz.underlying203
 a171 := Tryz.isAgg203
 z171 := Tryz.sizeOf203
 v171 := Tryz.zeroValue203
 t173 := Tryz.underlying207
 a173 := Tryz.isAgg207
 z173 := Tryz.sizeOf207
 v173 := Tryz.zeroValue207
 t175 := Tryz.underlying263
 a175 := Tryz.isAgg263
 z175 := Tryz.sizeOf263
 v175 := Tryz.zeroValue263
 t210 := Tryz.underlying266
 a210 := Tryz.isAgg266
 z210 := Tryz.sizeOf266
 v210 := Tryz.zeroValue266
 t212 := Tryz.underlying233
 a212 := Tryz.isAgg233
 z212 := Tryz.sizeOf233
 v212 := Tryz.zeroValue233
 t213 := Tryz.underlying234
 a213 := Tryz.isAgg234
 z213 := Tryz.sizeOf234
 t232 := Tryz.underlying277
 a232 := Tryz.isAgg277
 z232 := Tryz.sizeOf277
 v232 := Tryz.zeroValue277
 t233 := Tryz.underlying278
 a233 := Tryz.isAgg278
 z233 := Tryz.sizeOf278
 v233 := Tryz.zeroValue278
 g15 := by kernel_rfl
 g16 := by kernel_rfl
 g17 := by kernel_rfl
 g18 := by kernel_rfl
 g19 := by kernel_rfl
 t80 := Tryz.underlying107
 a80 := Tryz.isAgg107
 z80 := Tryz.sizeOf107
 v80 := Tryz.zeroValue107
 i0 := by kernel_rfl
 i2 := by kernel_rfl
 i3 := by kernel_rfl
 i4 := by kernel_rfl
 i5 := by kernel_rfl
 i9 := by kernel_rfl
 i20 := by kernel_rfl
 i21 := by kernel_rfl
 i37 := by kernel_rfl
 i46 := by kernel_rfl
 i51 := by kernel_rfl
 i53 := by kernel_rfl
 i75 := by kernel_rfl
 i76 := by kernel_rfl
 i80 := by kernel_rfl
 i85 := by kernel_rfl
 i127 := by kernel_rfl
 i143 := by kernel_rfl
 i145 := by kernel_rfl
 i167 := by kernel_rfl
 i168 := by kernel_rfl
 i171 := by kernel_rfl
 i173 := by kernel_rfl
 i175 := by kernel_rfl
 i210 := by kernel_rfl
 i212 := by kernel_rfl
 i232 := by kernel_rfl
 i233 := by kernel_rfl
 m15 := by kernel_rfl
 m16 := by kernel_rfl
 m17 := by kernel_rfl
 m18 := by kernel_rfl
 m19 := by kernel_rfl
 c0 := by kernel_rfl
 c2 := by kernel_rfl
 c3 := by kernel_rfl
 c4 := by kernel_rfl
 c5 := by kernel_rfl
 c9 := by kernel_rfl
 c20 := by kernel_rfl
 c21 := by kernel_rfl
 c37 := by kernel_rfl
 c46 := by kernel_rfl
 c51 := by kernel_rfl
 c53 := by kernel_rfl
 c75 := by kernel_rfl
 c76 := by kernel_rfl
 c80 := by kernel_rfl
 c85 := by kernel_rfl
 c127 := by kernel_rfl
 c143 := by kernel_rfl
 c145 := by kernel_rfl
 c167 := by kernel_rfl
 c168 := by kernel_rfl
 c171 := by kernel_rfl
 c173 := by kernel_rfl
 c175 := by kernel_rfl
 c210 := by kernel_rfl
 c212 := by kernel_rfl
 c213 := by kernel_rfl
 c232 := by kernel_rfl
 c233 := by kernel_rfl }
open Go.RowKit in
theorem Tryz.strconv_Atoi_ok (s : ByteArray) (hmax : s.size ≤ 9223372036854775806) (v : Int) (h : Lib.atoiAll s.data.toList = .ok v) (w : World) :
 Calls Tryz.prog 172 #[.string s] w fun e w' => e = .returned (.tuple #[.int .i64 v,.nilIface]) ∧ (w' = w ∨ ∃ t,w' = Lib.bytesWorld w 5 t) := Any.strconv_Atoi_ok Tryz.laysC172 s hmax v h w
open Go.RowKit in
theorem Tryz.strconv_Atoi_range_var (s : ByteArray) (hlim : s.size ≤ 281474976710656) (h : Lib.atoiAll s.data.toList = .range) (tp : TypeId) (p : Value) (w : World) (hvar : w.var? Tryz.prog "strconv.ErrRange" = some #[.iface tp p]) :
 Calls Tryz.prog 172 #[.string s] w fun e w' => ∃ N,e = .returned (.tuple #[.int .i64 (Lib.atoiSat s.data.toList),.iface 241 (.pointer (some ⟨N,0,none⟩))]) ∧ w.heap.size ≤ N ∧ w'.heap[N]? = some (.cells #[.string ⟨#[65,116,111,105]⟩,.string s,.iface tp p] 266 (0,0)) ∧ Below w.heap.size w w' := Any.strconv_Atoi_range_var Tryz.laysC172 s hlim h tp p w hvar
def Tryz.lays138_ren : Go.Shelf.Ren := ⟨fun | 138 => 231 | 195 => 247 | 218 => 248 | 143 => 232 | 219 => 249 | 217 => 202 | 225 => 182 | 224 => 181 | 267 => 261 | 266 => 229 | 314 => 269 | n => n,fun | 9 => 9 | 3 => 3 | 4 => 4 | 5 => 5 | 0 => 0 | 46 => 172 | 146 => 286 | 51 => 143 | n => n,fun | 1 => 3 | n => n⟩
theorem Tryz.lays138 : Go.Proofs.Lays.n138 Tryz.prog Tryz.lays138_ren := {
 mixed := by kernel_rfl
 f138 := Tryz.func231.trans (congrArg some (by kernel_rfl))
 f143 := Tryz.func232.trans (congrArg some (by kernel_rfl))
 f195 := Tryz.func247.trans (congrArg some (by kernel_rfl))
 f217 := Tryz.func202.trans (congrArg some (by kernel_rfl))
 f218 := Tryz.func248.trans (congrArg some (by kernel_rfl))
 f219 := Tryz.func249.trans (congrArg some (by kernel_rfl))
 f224 := Tryz.func181.trans (congrArg some (by kernel_rfl))
 f225 := Tryz.func182.trans (congrArg some (by kernel_rfl))
 f266 := Tryz.func229.trans (congrArg some (by kernel_rfl))
 f267 := Tryz.func261.trans (congrArg some (by kernel_rfl))
 f314 := Tryz.func269.trans (congrArg some (by kernel_rfl))
 t0 := Tryz.underlying0
 a0 := Tryz.isAgg0
 z0 := Tryz.sizeOf0
 v0 := Tryz.zeroValue0
 t3 := Tryz.underlying3
 a3 := Tryz.isAgg3
 z3 := Tryz.sizeOf3
 v3 := Tryz.zeroValue3
 t4 := Tryz.underlying4
 a4 := Tryz.isAgg4
 z4 := Tryz.sizeOf4
 v4 := Tryz.zeroValue4
 t5 := Tryz.underlying5
 a5 := Tryz.isAgg5
 z5 := Tryz.sizeOf5
 v5 := Tryz.zeroValue5
 t9 := Tryz.underlying9
 a9 := Tryz.isAgg9
 z9 := Tryz.sizeOf9
 v9 := Tryz.zeroValue9
 t46 := Tryz.underlying172
 a46 := Tryz.isAgg172
 z46 := Tryz.sizeOf172
 v46 := Tryz.zeroValue172
 t51 := Tryz.underlying143
 a51 := Tryz.isAgg143
 z51 := Tryz.sizeOf143
 v51 := Tryz.zeroValue143
 t146 := Tryz.underlying286
 a146 := Tryz.isAgg286
 z146 := Tryz.sizeOf286
 v146 := Tryz.zeroValue286
 g1 := by kernel_rfl }
open Go.RowKit Go.Lib in
theorem Tryz.strings_Count_one (s : ByteArray) (c : UInt8) (w : World) :
 Calls Tryz.prog 231 #[.string s,.string ⟨#[c]⟩] w fun e w' => e = .returned (.int .i64 (Lib.countByte s.data.toList c)) ∧ w' = w := Any.strings_Count_one Tryz.lays138 s c w
def Tryz.lays99_ren : Go.Shelf.Ren := ⟨fun | 99 => 161 | 206 => 183 | n => n,fun | 9 => 9 | 4 => 4 | 3 => 3 | n => n,fun | n => n⟩
theorem Tryz.lays99 : Go.Proofs.Lays.n99 Tryz.prog Tryz.lays99_ren := {
 mixed := by kernel_rfl
 f99 := Tryz.func161.trans (congrArg some (by kernel_rfl))
 f206 := Tryz.func183.trans (congrArg some (by kernel_rfl))
 t3 := Tryz.underlying3
 a3 := Tryz.isAgg3
 z3 := Tryz.sizeOf3
 v3 := Tryz.zeroValue3
 t4 := Tryz.underlying4
 a4 := Tryz.isAgg4
 z4 := Tryz.sizeOf4
 v4 := Tryz.zeroValue4
 t9 := Tryz.underlying9
 a9 := Tryz.isAgg9
 z9 := Tryz.sizeOf9
 v9 := Tryz.zeroValue9 }
open Go.RowKit Go.Lib in
theorem Tryz.strings_HasPrefix (s p : ByteArray) (w : World) :
 Calls Tryz.prog 161 #[.string s,.string p] w fun e w' => e = .returned (.bool (Lib.hasPrefix s.data.toList p.data.toList)) ∧ w' = w := Any.strings_HasPrefix Tryz.lays99 s p w
def Tryz.lays146_ren : Go.Shelf.Ren := ⟨fun | 146 => 184 | 221 => 203 | 268 => 230 | 138 => 231 | 143 => 232 | 195 => 247 | 197 => 121 | 218 => 248 | 219 => 249 | 260 => 158 | 217 => 202 | 225 => 182 | 224 => 181 | 267 => 261 | 266 => 229 | 314 => 269 | n => n,fun | 9 => 9 | 31 => 44 | 3 => 3 | 4 => 4 | 0 => 0 | 105 => 109 | 21 => 21 | 5 => 5 | 46 => 172 | 119 => 171 | 139 => 175 | 138 => 174 | 146 => 286 | 51 => 143 | n => n,fun | 1 => 3 | 3 => 1 | 4 => 2 | n => n⟩
theorem Tryz.lays146 : Go.Proofs.Lays.n146 Tryz.prog Tryz.lays146_ren := {
 mixed := by kernel_rfl
 f138 := Tryz.func231.trans (congrArg some (by kernel_rfl))
 f143 := Tryz.func232.trans (congrArg some (by kernel_rfl))
 f146 := Tryz.func184.trans (congrArg some (by kernel_rfl))
 f195 := Tryz.func247.trans (congrArg some (by kernel_rfl))
 f197 := Tryz.func121.trans (congrArg some (by kernel_rfl))
 f217 := Tryz.func202.trans (congrArg some (by kernel_rfl))
 f218 := Tryz.func248.trans (congrArg some (by kernel_rfl))
 f219 := Tryz.func249.trans (congrArg some (by kernel_rfl))
 f221 := Tryz.func203.trans (congrArg some (by kernel_rfl))
 f224 := Tryz.func181.trans (congrArg some (by kernel_rfl))
 f225 := Tryz.func182.trans (congrArg some (by kernel_rfl))
 f260 := Tryz.func158.trans (congrArg some (by kernel_rfl))
 f266 := Tryz.func229.trans (congrArg some (by kernel_rfl))
 f267 := Tryz.func261.trans (congrArg some (by kernel_rfl))
 f268 := Tryz.func230.trans (congrArg some (by kernel_rfl))
 f314 := Tryz.func269.trans (congrArg some (by kernel_rfl))
 t0 := Tryz.underlying0
 a0 := Tryz.isAgg0
 z0 := Tryz.sizeOf0
 v0 := Tryz.zeroValue0
 t3 := Tryz.underlying3
 a3 := Tryz.isAgg3
 z3 := Tryz.sizeOf3
 v3 := Tryz.zeroValue3
 t4 := Tryz.underlying4
 a4 := Tryz.isAgg4
 z4 := Tryz.sizeOf4
 v4 := Tryz.zeroValue4
 t5 := Tryz.underlying5
 a5 := Tryz.isAgg5
 z5 := Tryz.sizeOf5
 v5 := Tryz.zeroValue5
 t9 := Tryz.underlying9
 a9 := Tryz.isAgg9
 z9 := Tryz.sizeOf9
 v9 := Tryz.zeroValue9
 t21 := Tryz.underlying21
 a21 := Tryz.isAgg21
 z21 := Tryz.sizeOf21
 v21 := Tryz.zeroValue21
 t31 := Tryz.underlying44
 a31 := Tryz.isAgg44
 z31 := Tryz.sizeOf44
 v31 := Tryz.zeroValue44
 t46 := Tryz.underlying172
 a46 := Tryz.isAgg172
 z46 := Tryz.sizeOf172
 v46 := Tryz.zeroValue172
 t51 := Tryz.underlying143
 a51 := Tryz.isAgg143
 z51 := Tryz.sizeOf143
 v51 := Tryz.zeroValue143
 t105 := Tryz.underlying109
 a105 := Tryz.isAgg109
 z105 := Tryz.sizeOf109
 v105 := Tryz.zeroValue109
 t119 := Tryz.underlying171
 a119 := Tryz.isAgg171
 z119 := Tryz.sizeOf171
 t138 := Tryz.underlying174
 a138 := Tryz.isAgg174
 z138 := Tryz.sizeOf174
 v138 := Tryz.zeroValue174
 t139 := Tryz.underlying175
 a139 := Tryz.isAgg175
 z139 := Tryz.sizeOf175
 v139 := Tryz.zeroValue175
 t146 := Tryz.underlying286
 a146 := Tryz.isAgg286
 z146 := Tryz.sizeOf286
 v146 := Tryz.zeroValue286
 g1 := by kernel_rfl
 g3 := by kernel_rfl
 g4 := by kernel_rfl }
open Go.RowKit Go.Lib in
theorem Tryz.strings_Split (s sep : ByteArray) (m : Int) (w : World) (hs : s.size < 4294967281) (hm : w.cell? ⟨3,0,none⟩ = some (.int .i64 m)) (h1 : 1 ≤ sep.size) :
 Calls Tryz.prog 184 #[.string s,.string sep] w fun e w' =>
  e = .returned (.slice (some ⟨w.heap.size,0,none⟩) (Lib.countB s sep + 1) (Lib.countB s sep + 1)) ∧ w' = w.alloc (.cells ((Lib.splitB sep 0 (Lib.countB s sep) s).map Value.string).toArray 9) := Any.strings_Split Tryz.lays146 (by kernel_rfl) s sep m w hs hm h1
end Go.Proofs
end
