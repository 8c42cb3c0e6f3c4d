/- strings.Replacer as querylang's quote uses it, in the kit's own manner: byteStringReplacer.Replace. No condition. -/
import Derived.WalkKit
import Derived.OwnWalkIn
import Derived.TacticsInMore
import Derived.RegionIn
import Derived.LoopNIn
import Derived.LoopIn
import Derived.Laws.Pointers
import Derived.Laws.IdiomCopy
import Derived.Laws.MakeOwn
import Derived.Laws.BytesArg
import Derived.Laws.BytesString
import Derived.Shelf.RegionOpen
import Derived.Test.YtpoefbbfhebakaaGreatDoorC0
import Derived.Test.YtpoefbbfhebakaaGreatDoorCV
import Derived.Test.YtpoefbbfhebakaaGreatDoorCN
set_option linter.unusedVariables false
set_option linter.unusedSimpArgs false
namespace Go.Proofs
open Go.RowKit Go.Shelf Qv
attribute [local go_sem] Oper.semAt_some
structure ReplAt (W : World) (R : Nat) (A B T : Nat) (ca cb ct : Nat) : Prop where
 none : ∀ c : Nat,c < 256 → c ≠ 34 → c ≠ 92 → W.cell? ⟨R,c,.none⟩ = some (.slice .none 0 0)
 quo : W.cell? ⟨R,34,.none⟩ = some (.slice (some ⟨A,0,.none⟩) 2 ca)
 bsl : W.cell? ⟨R,92,.none⟩ = some (.slice (some ⟨B,0,.none⟩) 2 cb)
 tab : W.cell? ⟨R,256,.none⟩ = some (.slice (some ⟨T,0,.none⟩) 2 ct)
 a0 : W.cell? ⟨A,0,.none⟩ = some (.int .u8 92)
 a1 : W.cell? ⟨A,1,.none⟩ = some (.int .u8 34)
 b0 : W.cell? ⟨B,0,.none⟩ = some (.int .u8 92)
 b1 : W.cell? ⟨B,1,.none⟩ = some (.int .u8 92)
 t0 : W.cell? ⟨T,0,.none⟩ = some (.string ⟨#[34]⟩)
 t1 : W.cell? ⟨T,1,.none⟩ = some (.string ⟨#[92]⟩)
def spec (c : UInt8) : Bool := c == 34 || c == 92
def cntS (s : Bytes) : Nat := (s.filter spec).length
def Fr (n : Nat) (a : Act) (j : Nat → Value) : Prop := a = { tmps := ((List.range n).map j).toArray,defers := [] }
theorem Fr.intro (l : List Value) : Fr l.length { tmps := l.toArray,defers := [] } (fun i => l.getD i undef) := by
 unfold Fr
 congr 2
 apply List.ext_getElem?
 intro i
 rcases Nat.lt_or_ge i l.length with h | h
 ·simp [h,List.getElem?_eq_getElem h]
 ·simp [h,List.getElem?_eq_none h]
def bodyOf (f : Func) : Code := match f.body with
 | some c => c
 | none => .skip
def seqTail : Nat → Code → Code
 | 0,c => c
 | n + 1,.seq _ c => seqTail n c
 | _,c => c
theorem arr122 (j : Nat → Value) : ((List.range 122).map j).toArray = #[j 0,j 1,j 2,j 3,j 4,j 5,j 6,j 7,j 8,j 9,j 10,j 11,j 12,j 13,j 14,j 15,j 16,j 17,j 18,j 19,j 20,j 21,j 22,j 23,j 24,j 25,j 26,j 27,j 28,j 29,j 30,j 31,j 32,j 33,j 34,j 35,j 36,j 37,j 38,j 39,j 40,j 41,j 42,j 43,j 44,j 45,j 46,j 47,j 48,j 49,j 50,j 51,j 52,j 53,j 54,j 55,j 56,j 57,j 58,j 59,j 60,j 61,j 62,j 63,j 64,j 65,j 66,j 67,j 68,j 69,j 70,j 71,j 72,j 73,j 74,j 75,j 76,j 77,j 78,j 79,j 80,j 81,j 82,j 83,j 84,j 85,j 86,j 87,j 88,j 89,j 90,j 91,j 92,j 93,j 94,j 95,j 96,j 97,j 98,j 99,j 100,j 101,j 102,j 103,j 104,j 105,j 106,j 107,j 108,j 109,j 110,j 111,j 112,j 113,j 114,j 115,j 116,j 117,j 118,j 119,j 120,j 121] := rfl
structure SameW (w W : World) : Prop where
 heap : W.heap = w.heap
 os : W.os = w.os
 tape : W.tape = w.tape
 output : W.output = w.output
noncomputable def rest300 : Code := seqTail 4 (bodyOf Tryz.f300)
theorem spec_iff (c : UInt8) : spec c = true ↔ (c = 34 ∨ c = 92) := by simp [spec]
theorem escQ_len (s : Bytes) : (escQ s).length = s.length + cntS s := by
 induction s with
 | nil => rfl
 | cons c s ih =>
   unfold escQ cntS
   by_cases h : c = 34 ∨ c = 92
   ·rw [if_pos h,List.filter_cons,if_pos ((spec_iff c).2 h)]
    simp only [List.length_cons,ih]
    unfold cntS
    omega
   ·rw [if_neg h,List.filter_cons,if_neg (fun e => h ((spec_iff c).1 e))]
    simp only [List.length_cons,ih]
    unfold cntS
    omega
theorem escQ_none {s : Bytes} (h : cntS s = 0) : escQ s = s := by
 induction s with
 | nil => rfl
 | cons c s ih =>
   unfold cntS at h
   rw [List.filter_cons] at h
   by_cases hc : spec c = true
   ·rw [if_pos hc] at h; simp at h
   ·rw [if_neg hc] at h
    unfold escQ
    rw [if_neg (fun e => hc ((spec_iff c).2 e)),ih h]
theorem escQ_append (s t : Bytes) : escQ (s ++ t) = escQ s ++ escQ t := by
 induction s with
 | nil => rfl
 | cons c s ih =>
   have e : ∀ t : Bytes,escQ (c :: t) = if c = 34 ∨ c = 92 then 92 :: c :: escQ t else c :: escQ t := fun _ => rfl
   rw [List.cons_append,e,e]
   split <;> simp [ih]
theorem escQ_snoc {s : Bytes} {i : Nat} {c : UInt8} (h : s[i]? = some c) : escQ (s.take (i + 1)) = escQ (s.take i) ++ (if spec c = true then [92,c] else [c]) := by
 rw [List.take_add_one,h,escQ_append]
 congr 1
 show escQ [c] = _
 unfold escQ
 by_cases hc : c = 34 ∨ c = 92
 ·rw [if_pos hc,if_pos ((spec_iff c).2 hc)]; rfl
 ·rw [if_neg hc,if_neg (fun e => hc ((spec_iff c).1 e))]; rfl
theorem cntS_take (s : Bytes) (i : Nat) : cntS (s.take i) + cntS (s.drop i) = cntS s := by
 unfold cntS
 rw [← List.length_append,← List.filter_append,List.take_append_drop]
def iOf : Value → Nat
 | .int _ i => i.toNat
 | _ => 0
def u8v (c : UInt8) : Value := .int .u8 (c.toNat : Int)
def bufL (s : Bytes) (i : Nat) : List Value := (escQ (s.take i)).map u8v ++ List.replicate (s.length + cntS s - (escQ (s.take i)).length) (.int .u8 0)
theorem set_mid {α : Type} (A : List α) (z v : α) (k : Nat) : (A ++ List.replicate (k + 1) z).set A.length v = (A ++ [v]) ++ List.replicate k z := by
 induction A with
 | nil => simp [List.replicate_succ]
 | cons a A ih => simp only [List.cons_append,List.length_cons,List.set_cons_succ,ih]
theorem buf_step1 {s : Bytes} {i : Nat} {c : UInt8} (h : s[i]? = some c) (hs : spec c = false) (hJ : (escQ (s.take i)).length < s.length + cntS s) : (bufL s i).set (escQ (s.take i)).length (u8v c) = bufL s (i + 1) := by
 unfold bufL
 rw [escQ_snoc h,if_neg (by rw [hs]; simp)]
 obtain ⟨k,hk⟩ : ∃ k,s.length + cntS s - (escQ (s.take i)).length = k + 1 := ⟨s.length + cntS s - (escQ (s.take i)).length - 1,by omega⟩
 have e := set_mid ((escQ (s.take i)).map u8v) (.int .u8 0) (u8v c) k
 rw [List.length_map] at e
 rw [hk,e,List.map_append]
 congr 2
 rw [List.length_append,List.length_singleton]
 omega
theorem buf_step2 {s : Bytes} {i : Nat} {c : UInt8} (h : s[i]? = some c) (hs : spec c = true) (hJ : (escQ (s.take i)).length + 1 < s.length + cntS s) : ((bufL s i).set (escQ (s.take i)).length (u8v 92)).set ((escQ (s.take i)).length + 1) (u8v c) = bufL s (i + 1) := by
 unfold bufL
 rw [escQ_snoc h,if_pos hs]
 obtain ⟨k,hk⟩ : ∃ k,s.length + cntS s - (escQ (s.take i)).length = k + 1 + 1 := ⟨s.length + cntS s - (escQ (s.take i)).length - 2,by omega⟩
 have e := set_mid ((escQ (s.take i)).map u8v) (.int .u8 0) (u8v 92) (k + 1)
 have e2 := set_mid ((escQ (s.take i)).map u8v ++ [u8v 92]) (.int .u8 0) (u8v c) k
 rw [List.length_map] at e
 rw [List.length_append,List.length_map,List.length_singleton] at e2
 rw [hk,e,e2,List.map_append]
 have : List.map u8v [92,c] = [u8v 92] ++ [u8v c] := rfl
 rw [this,← List.append_assoc]
 congr 2
 rw [List.length_append]
 show k = s.length + cntS s - ((escQ (s.take i)).length + 2)
 omega
theorem heap_setCellL {W : World} {B o : Nat} {cs : List Value} {T : TypeId} (v : Value) (h : W.heap[B]? = some (.cells cs.toArray T)) : (W.setCell ⟨B,o,none⟩ v).heap[B]? = some (.cells (cs.set o v).toArray T) := by
 obtain ⟨hlt,hk⟩ := Array.getElem?_eq_some_iff.1 h
 show (W.heap.modify B _)[B]? = _
 rw [Array.getElem?_eq_getElem (by rw [Array.size_modify]; exact hlt),Array.getElem_modify_self,hk]
 simp
theorem copy_two {W : World} (B J n A ca : Nat) (x y : Value) (hn : 2 ≤ n) (h0 : W.cell? ⟨A,0,none⟩ = some x) (h1 : W.cell? ⟨A,1,none⟩ = some y) (c0 : (W.cell? ⟨B,J,none⟩).isSome = true) (c1 : (W.cell? ⟨B,J + 1,none⟩).isSome = true)
 (hz : ∀ k,W.frozen? ⟨B,k,none⟩ = false) (hx : x.oneCell' = true) (hy : y.oneCell' = true) :
 (Builtin.copy_ #[120,120] 3 #[.slice (some ⟨B,J,none⟩) n n,.slice (some ⟨A,0,none⟩) 2 ca]).run Tryz.prog W = .ok (.int .i64 2) ((W.setCell ⟨B,J,none⟩ x).setCell ⟨B,J + 1,none⟩ y) := by
 have := run_copy_cells (P := Tryz.prog) W 120 120 3 5 B J n n ⟨A,0,none⟩ 2 ca [x,y] (by kernel_rfl) (by kernel_rfl) (by simp [Nat.min_def]; omega)
  (fun j v hj => by
   match j,hj with
   | 0,hj => cases hj; exact h0
   | 1,hj => cases hj; exact h1)
  (fun j hj => by
   match j,hj with
   | 0,_ => exact c0
   | 1,_ => exact c1)
  (fun j hj => hz _)
  (fun v hv => by
   simp only [List.mem_cons,List.not_mem_nil,or_false] at hv
   rcases hv with rfl | rfl
   ·exact hx
   ·exact hy)
 exact this
theorem bufL_at {s : Bytes} {i k : Nat} (h : (escQ (s.take i)).length ≤ k) (hk : k < s.length + cntS s) : (bufL s i)[k]? = some (.int .u8 0) := by
 unfold bufL
 rw [List.getElem?_append_right (by rw [List.length_map]; exact h),List.length_map,List.getElem?_replicate,if_pos (by omega)]
theorem esc_more {s : Bytes} {i : Nat} {c : UInt8} (h : s[i]? = some c) (hs : spec c = true) : (escQ (s.take i)).length + 1 < s.length + cntS s := by
 have e := congrArg List.length (escQ_snoc h)
 rw [if_pos hs,List.length_append,escQ_len (s.take (i + 1))] at e
 have hlt := (List.getElem?_eq_some_iff.1 h).1
 have h1 : (s.take (i + 1)).length = i + 1 := by rw [List.length_take]; omega
 have h2 := cntS_take s (i + 1)
 have h3 : [92,c].length = 2 := rfl
 omega
theorem below_same {w W : World} (h : SameW w W) : RowKit.Below w.heap.size w W := ⟨h.os,h.tape,h.output,by rw [h.heap]; exact Nat.le_refl _,fun k _ => by rw [h.heap]⟩
theorem made_one (v : Value) (N : Nat) : madeCells #[v] N = (List.replicate N v).toArray := by
 apply Array.ext
 ·simp [madeCells]
 ·intro i h1 h2
  simp [madeCells,Nat.mod_one]
set_option maxRecDepth 100000 in
set_option maxHeartbeats 2000000 in
theorem tail300 (s : Bytes) (hs : s.length ≤ 2 ^ 30) (w W : World) (R A B T ca cb ct : Nat) (h : ReplAt w R A B T ca cb ct) (hW : SameW w W) (a : Act) (j : Nat → Value) (hfr : Fr 122 a j)
 (h0 : j 0 = .pointer (some ⟨R,0,none⟩)) (h1 : j 1 = .string ⟨s.toArray⟩) (h5 : j 5 = .int .i64 ((s.length + cntS s : Nat) : Int)) (h6 : j 6 = .bool (decide (cntS s ≠ 0))) :
 Code.wpIn Fence.wide 0 Tryz.prog rest300 (bodyPost Tryz.prog Tryz.f300 fun e w' => e = .returned (.string ⟨(escQ s).toArray⟩) ∧ RowKit.Below w.heap.size w w') a W := by
 conv => arg 4; whnf
 obtain rfl := hfr
 rw [arr122]
 simp only [h0,h1,h5,h6]
 by_cases hc : cntS s = 0
 ·have hd : decide (cntS s ≠ 0) = false := decide_eq_false (fun h => h hc)
  simp only [hd]
  gi_wp2
  go_ret
  refine ⟨?_,below_same hW⟩
  rw [escQ_none hc]
  rfl
 ·have hd : decide (cntS s ≠ 0) = true := decide_eq_true hc
  simp only [hd]
  have hcnt : cntS s ≤ s.length := List.length_filter_le _ _
  have hmk : (Instr.makeSlice 120 (.int .i64 (↑s.length + ↑(cntS s))) (.int .i64 (↑s.length + ↑(cntS s)))).run Tryz.prog W = .ok (.slice (some ⟨W.heap.size,0,none⟩) (s.length + cntS s) (s.length + cntS s)) (W.alloc (.cells (List.replicate (s.length + cntS s) (.int .u8 0)).toArray 5)) := by
   have hi : (Tryz.prog.info? 5).map (fun i => (i.size,i.bytes,i.zero)) = some (1,1,some (.int .u8 0)) := by kernel_rfl
   obtain ⟨i,hi,he⟩ := Option.map_eq_some_iff.1 hi
   simp only [Prod.mk.injEq] at he
   have := run_make (P := Tryz.prog) W 120 5 i (.int .u8 0) (by kernel_rfl) hi he.2.2 .i64 .i64 (↑s.length + ↑(cntS s)) (↑s.length + ↑(cntS s)) (by omega) (by omega) (by rw [he.2.1]; omega) (by omega)
   rw [this,he.1]
   have e1 : ((s.length : Int) + (cntS s : Int)).toNat = s.length + cntS s := by omega
   rw [e1,Nat.mul_one]
   congr 3
   exact made_one _ _
  gi_wp2
  refine wpIn_loop (fun a' W' => ∃ (i : Nat) (j : Nat → Value),Fr 122 a' j ∧ i ≤ s.length ∧ j 0 = .pointer (some ⟨R,0,none⟩) ∧ j 1 = .string ⟨s.toArray⟩ ∧ j 12 = .slice (some ⟨W.heap.size,0,none⟩) (s.length + cntS s) (s.length + cntS s) ∧
   j 13 = .int .i64 ((escQ (s.take i)).length : Int) ∧ j 14 = .int .i64 (i : Int) ∧ W'.heap[W.heap.size]? = some (.cells (bufL s i).toArray 5) ∧ (∀ k,k < W.heap.size → W'.heap[k]? = W.heap[k]?) ∧ W'.heap.size = W.heap.size + 1 ∧ W'.os = w.os ∧ W'.tape = w.tape ∧ W'.output = w.output)
   (fun a' _ => s.length - iOf (a'.tmps.getD 14 undef)) ?start ?round
  case start =>
   refine ⟨0,_,Fr.intro _,Nat.zero_le _,rfl,rfl,rfl,rfl,rfl,?_,?_,?_,hW.os,hW.tape,hW.output⟩
   ·rw [alloc_heap,if_pos rfl]
    simp [bufL,escQ]
   ·intro k hk
    rw [alloc_heap,if_neg (by omega)]
   ·exact World.size_alloc _ _
  case round =>
   rintro a' W' ⟨i,j',hfr',hi,g0,g1,g12,g13,g14,hbuf,hold,hsz,hos,htape,hout⟩
   obtain rfl := hfr'
   rw [arr122]
   simp only [g0,g1,g12,g13,g14]
   by_cases hlt : i < s.length
   ·obtain ⟨c,hcc⟩ : ∃ c,s[i]? = some c := ⟨_,List.getElem?_eq_getElem hlt⟩
    have hch : ∀ k,k < s.length + cntS s → W'.cell? ⟨W.heap.size,k,none⟩ = (bufL s i)[k]? := fun k hk => by simp [World.cell?,hbuf]
    have hfz : ∀ k,W'.frozen? ⟨W.heap.size,k,none⟩ = false := fun k => by simp [World.frozen?,hbuf]
    have hps : i < (ByteArray.mk s.toArray).size := hlt
    have hix : (ByteArray.mk s.toArray)[i] = c := by
     have := (List.getElem?_eq_some_iff.1 hcc).2
     rw [← this]
     rfl
    have hc256 : c.toNat < 256 := c.toNat_lt
    have hc256' : (c.toNat : Int) < 256 := by omega
    have hnn : ∀ w,(binOp .neq 120 (.slice none 0 0) (.slice none 0 0)).run Tryz.prog w = .ok (.bool false) w := fun _ => by kernel_rfl
    have hnz : ∀ (b : Addr) (l c : Nat) w,(binOp .neq 120 (.slice (some b) l c) (.slice none 0 0)).run Tryz.prog w = .ok (.bool true) w := fun _ _ _ _ => by kernel_rfl
    have hct := cntS_take s i
    have hlt1 : (s.take i).length = i := by rw [List.length_take]; omega
    have hdr : 0 < cntS (s.drop i) ∨ 0 = cntS (s.drop i) := by omega
    obtain ⟨J,hJ0⟩ : ∃ J,J = (escQ (s.take i)).length := ⟨_,rfl⟩
    have hJe := escQ_len (s.take i)
    rw [hlt1,← hJ0] at hJe
    rw [← hJ0]
    have hJ : J < s.length + cntS s := by omega
    have hJ' : (J : Int) < (s.length : Int) + (cntS s : Int) := by omega
    have hcj : W'.cell? ⟨W.heap.size,J,none⟩ = some (.int .u8 0) := by
     rw [hch _ hJ]
     unfold bufL
     rw [← hJ0,List.getElem?_append_right (by rw [List.length_map,hJ0]; exact Nat.le_refl _)]
     rw [List.length_map,← hJ0,Nat.sub_self,List.getElem?_replicate,if_pos (by omega)]
    have hJ1 : J ≤ i + cntS (s.take i) ∧ i + cntS (s.take i) ≤ J := ⟨Nat.le_of_eq hJe,Nat.le_of_eq hJe.symm⟩
    have hJ2 : J ≤ (escQ (s.take i)).length ∧ (escQ (s.take i)).length ≤ J := ⟨Nat.le_of_eq hJ0,Nat.le_of_eq hJ0.symm⟩
    clear hJe hJ0 hct hlt1 hch
    have hcell : ∀ b o v,w.cell? ⟨b,o,none⟩ = some v → W'.cell? ⟨b,o,none⟩ = some v := fun b o v hv => by
     have hb : b < w.heap.size := by
      rcases Nat.lt_or_ge b w.heap.size with hb | hb
      ·exact hb
      ·simp [World.cell?,Array.getElem?_eq_none hb] at hv
     rw [← hv]
     simp only [World.cell?]
     rw [hold b (by rw [hW.heap]; exact hb),hW.heap]
    by_cases hsp : spec c = true
    ·rcases (spec_iff c).1 hsp with rfl | rfl
     ·have hrc := hcell _ _ _ h.quo
      have ha0 := hcell _ _ _ h.a0
      have ha1 := hcell _ _ _ h.a1
      have hm := esc_more hcc hsp
      have hJ3 : J + 1 < s.length + cntS s := by omega
      have hcj1 : W'.cell? ⟨W.heap.size,J + 1,none⟩ = some (.int .u8 0) := by
       have e := bufL_at (s := s) (i := i) (k := J + 1) (by omega) hJ3
       simp [World.cell?,hbuf,e]
      have hcp := copy_two (W := W'.drew) W.heap.size J (s.length + cntS s - J) A ca (.int .u8 92) (.int .u8 34) (by omega) (by go_simp) (by go_simp) (by rw [World.cell?_drew,hcj]; rfl) (by rw [World.cell?_drew,hcj1]; rfl) (fun k => by go_simp) rfl rfl
      clear hcell hm
      gi_wp2
      gi_region
      all_goals gi_wp2
      all_goals
       have hJq : J = (escQ (s.take i)).length := by omega
       refine ⟨⟨i + 1,_,Fr.intro _,hlt,rfl,rfl,rfl,?_,?_,?_,?_,?_,hos,htape,hout⟩,?_⟩
       ·show Value.int .i64 ((J : Int) + 2) = .int .i64 (((escQ (s.take (i + 1))).length : Nat) : Int)
        rw [escQ_snoc hcc,if_pos hsp,List.length_append,← hJq]
        rfl
       ·show Value.int .i64 ((i : Int) + 1) = .int .i64 ((i + 1 : Nat) : Int)
        rfl
       ·show ((W'.setCell ⟨W.heap.size,J,none⟩ (.int .u8 92)).setCell ⟨W.heap.size,J + 1,none⟩ (.int .u8 34)).heap[W.heap.size]? = _
        rw [heap_setCellL _ (heap_setCellL _ hbuf)]
        have := buf_step2 hcc hsp (by rw [← hJq]; exact hJ3)
        rw [← hJq] at this
        rw [← this]
        rfl
       ·intro k hk
        show ((W'.setCell ⟨W.heap.size,J,none⟩ (.int .u8 92)).setCell ⟨W.heap.size,J + 1,none⟩ (.int .u8 34)).heap[k]? = _
        rw [RowKit.Below.heap_setCell _ _ _ _ (by show k ≠ W.heap.size; omega),RowKit.Below.heap_setCell _ _ _ _ (by show k ≠ W.heap.size; omega)]
        exact hold k hk
       ·show ((W'.setCell ⟨W.heap.size,J,none⟩ (.int .u8 92)).setCell ⟨W.heap.size,J + 1,none⟩ (.int .u8 34)).heap.size = _
        simp only [World.setCell,Array.size_modify]
        exact hsz
       ·show s.length - ((i : Int) + 1).toNat < s.length - ((i : Int)).toNat
        omega
     ·have hrc := hcell _ _ _ h.bsl
      have ha0 := hcell _ _ _ h.b0
      have ha1 := hcell _ _ _ h.b1
      have hm := esc_more hcc hsp
      have hJ3 : J + 1 < s.length + cntS s := by omega
      have hcj1 : W'.cell? ⟨W.heap.size,J + 1,none⟩ = some (.int .u8 0) := by
       have e := bufL_at (s := s) (i := i) (k := J + 1) (by omega) hJ3
       simp [World.cell?,hbuf,e]
      have hcp := copy_two (W := W'.drew) W.heap.size J (s.length + cntS s - J) B cb (.int .u8 92) (.int .u8 92) (by omega) (by go_simp) (by go_simp) (by rw [World.cell?_drew,hcj]; rfl) (by rw [World.cell?_drew,hcj1]; rfl) (fun k => by go_simp) rfl rfl
      clear hcell hm
      gi_wp2
      gi_region
      all_goals gi_wp2
      all_goals
       have hJq : J = (escQ (s.take i)).length := by omega
       refine ⟨⟨i + 1,_,Fr.intro _,hlt,rfl,rfl,rfl,?_,?_,?_,?_,?_,hos,htape,hout⟩,?_⟩
       ·show Value.int .i64 ((J : Int) + 2) = .int .i64 (((escQ (s.take (i + 1))).length : Nat) : Int)
        rw [escQ_snoc hcc,if_pos hsp,List.length_append,← hJq]
        rfl
       ·show Value.int .i64 ((i : Int) + 1) = .int .i64 ((i + 1 : Nat) : Int)
        rfl
       ·show ((W'.setCell ⟨W.heap.size,J,none⟩ (.int .u8 92)).setCell ⟨W.heap.size,J + 1,none⟩ (.int .u8 92)).heap[W.heap.size]? = _
        rw [heap_setCellL _ (heap_setCellL _ hbuf)]
        have := buf_step2 hcc hsp (by rw [← hJq]; exact hJ3)
        rw [← hJq] at this
        rw [← this]
        rfl
       ·intro k hk
        show ((W'.setCell ⟨W.heap.size,J,none⟩ (.int .u8 92)).setCell ⟨W.heap.size,J + 1,none⟩ (.int .u8 92)).heap[k]? = _
        rw [RowKit.Below.heap_setCell _ _ _ _ (by show k ≠ W.heap.size; omega),RowKit.Below.heap_setCell _ _ _ _ (by show k ≠ W.heap.size; omega)]
        exact hold k hk
       ·show ((W'.setCell ⟨W.heap.size,J,none⟩ (.int .u8 92)).setCell ⟨W.heap.size,J + 1,none⟩ (.int .u8 92)).heap.size = _
        simp only [World.setCell,Array.size_modify]
        exact hsz
       ·show s.length - ((i : Int) + 1).toNat < s.length - ((i : Int)).toNat
        omega
    ·have hrc : W'.cell? ⟨R,c.toNat,none⟩ = some (.slice none 0 0) := hcell _ _ _ (h.none c.toNat hc256 (fun e => hsp ((spec_iff c).2 (.inl (UInt8.toNat_inj.1 e)))) (fun e => hsp ((spec_iff c).2 (.inr (UInt8.toNat_inj.1 e)))))
     clear hcell
     gi_wp2
     have hsp : spec c = false := by simpa using hsp
     have hJq : J = (escQ (s.take i)).length := by omega
     refine ⟨⟨i + 1,_,Fr.intro _,hlt,rfl,rfl,rfl,?_,?_,?_,?_,?_,hos,htape,hout⟩,?_⟩
     ·show Value.int .i64 ((J : Int) + 1) = .int .i64 (((escQ (s.take (i + 1))).length : Nat) : Int)
      rw [escQ_snoc hcc,if_neg (by rw [hsp]; simp),List.length_append,← hJq]
      rfl
     ·show Value.int .i64 ((i : Int) + 1) = .int .i64 ((i + 1 : Nat) : Int)
      rfl
     ·rw [heap_setCellL _ hbuf]
      have := buf_step1 hcc hsp (by rw [← hJq]; exact hJ)
      rw [← hJq] at this
      rw [← this]
      rfl
     ·intro k hk
      rw [RowKit.Below.heap_setCell _ _ _ _ (by show k ≠ W.heap.size; omega)]
      exact hold k hk
     ·simp only [World.setCell,Array.size_modify]
      exact hsz
     ·show s.length - ((i : Int) + 1).toNat < s.length - ((i : Int)).toNat
      omega
   ·obtain rfl : i = s.length := by omega
    have hb : bufL s s.length = (escQ s).map u8v := by
     unfold bufL
     rw [List.take_length,escQ_len,Nat.sub_self]
     simp
    have hcv := run_convert_bytes_arg (P := Tryz.prog) W' 120 5 (by kernel_rfl) (by kernel_rfl) W.heap.size 0 (s.length + cntS s) (s.length + cntS s) ((escQ s).map fun c => (c.toNat : Int)) (by rw [List.length_map,escQ_len])
     (fun k hk => by
      have hk' : k < (escQ s).length := by rw [escQ_len]; exact hk
      simp only [World.cell?,hbuf,hb]
      simp [List.getElem?_eq_getElem hk',List.getD,u8v]) 9 (by kernel_rfl)
    have hstr : strOfNums ((escQ s).map fun c => (c.toNat : Int)) = ⟨(escQ s).toArray⟩ := by
     have := strOfNums_data ((escQ s).map fun c => (c.toNat : Int))
     rw [List.map_map] at this
     have e : ((fun n : Int => UInt8.ofNat n.toNat) ∘ fun c : UInt8 => (c.toNat : Int)) = id := by
      funext c
      simp
     rw [e,List.map_id] at this
     cases hq : strOfNums ((escQ s).map fun c => (c.toNat : Int)) with
     | mk d =>
       rw [hq] at this
       have this : d.toList = escQ s := this
       rw [← this]
    rw [hstr] at hcv
    gi_wp2
    go_ret
    refine ⟨rfl,hos,htape,hout,?_,?_⟩
    ·rw [hsz,hW.heap]; omega
    ·intro k hk
     rw [hold k (by rw [hW.heap]; exact hk),hW.heap]
def cA (s : Bytes) (i : Nat) : Nat := if i = 0 then 0 else if i = 1 then Lib.countByte s 34 else cntS s
theorem cA0 (s : Bytes) : cA s 0 = 0 := rfl
theorem cA1 (s : Bytes) : cA s 1 = Lib.countByte s 34 := rfl
theorem d0 : decide ((0 : Nat) ≠ 0) = false := rfl
theorem cA2 (s : Bytes) : cA s 2 = Lib.countByte s 34 + Lib.countByte s 92 := by
 show cntS s = _
 unfold cntS Lib.countByte
 induction s with
 | nil => rfl
 | cons c s ih =>
   rw [List.filter_cons,List.count_cons,List.count_cons]
   by_cases h1 : c = 34
   ·subst h1
    simp [spec,ih]
    omega
   ·by_cases h2 : c = 92
    ·subst h2
     simp [spec,ih]
     omega
    ·have : spec c = false := by simp [spec,h1,h2]
     simp [this,h1,h2,ih]
set_option maxRecDepth 100000 in
set_option maxHeartbeats 2000000 in
theorem replace_in (s : Bytes) (hs : s.length ≤ 2 ^ 30) (w : World) (R A B T ca cb ct : Nat) (h : ReplAt w R A B T ca cb ct) :
 CallsIn Fence.wide 0 Tryz.prog 300 #[.pointer (some ⟨R,0,none⟩),.string ⟨s.toArray⟩] w fun e w' => e = .returned (.string ⟨(escQ s).toArray⟩) ∧ RowKit.Below w.heap.size w w' := by
 refine callsIn_of_wp Tryz.func300 rfl trivial ?_ rfl
 have hnt : Tryz.f300.ntmps = 122 := rfl
 simp only [hnt,List.size_toArray,List.length_cons,List.length_nil,Nat.reduceAdd,Nat.reduceSub,Array.replicate_succ,Array.replicate_zero,List.push_toArray,List.append_toArray,List.nil_append,List.cons_append]
 have htab := h.tab
 by_cases h16 : 16 ≤ s.length
 ·have hd : decide ((16 : Int) ≤ (s.length : Int)) = true := decide_eq_true (by omega)
  gi_wp2
  rename_i Q' K hK
  have hT : ∀ (W : World) (a : Act) (j : Nat → Value),SameW w W → Fr 122 a j → j 0 = .pointer (some ⟨R,0,none⟩) → j 1 = .string ⟨s.toArray⟩ → j 5 = .int .i64 ((s.length + cntS s : Nat) : Int) → j 6 = .bool (decide (cntS s ≠ 0)) → K a W :=
   fun W a j h1 h2 h3 h4 h5 h6 => hK a W (tail300 s hs w W R A B T ca cb ct h h1 a j h2 h3 h4 h5 h6)
  clear hK
  refine wpIn_loop (fun a' W' => ∃ (i : Nat) (j : Nat → Value),Fr 122 a' j ∧ i ≤ 2 ∧ j 0 = .pointer (some ⟨R,0,none⟩) ∧ j 1 = .string ⟨s.toArray⟩ ∧ j 5 = .int .i64 ((s.length + cA s i : Nat) : Int) ∧ j 6 = .bool (decide (cA s i ≠ 0)) ∧
   j 30 = .slice (some ⟨T,0,none⟩) 2 ct ∧ j 31 = .int .i64 2 ∧ j 32 = .int .i64 (i : Int) ∧ SameW w W')
   (fun a' _ => 2 - iOf (a'.tmps.getD 32 undef)) ?start ?round
  case start =>
   exact ⟨0,_,Fr.intro _,Nat.zero_le _,rfl,rfl,rfl,rfl,rfl,rfl,rfl,⟨rfl,rfl,rfl,rfl⟩⟩
  case round =>
   rintro a' W' ⟨i,j',hfr',hi,g0,g1,g5,g6,g30,g31,g32,hsame⟩
   obtain rfl := hfr'
   rw [arr122]
   simp only [g0,g1,g5,g6,g30,g31,g32]
   have hcell : ∀ b o v,w.cell? ⟨b,o,none⟩ = some v → W'.cell? ⟨b,o,none⟩ = some v := fun b o v hv => by
    rw [← hv]
    simp only [World.cell?,hsame.heap]
   match i,hi with
   | 2,_ =>
     gi_wp2
     exact hT W' _ _ hsame (Fr.intro _) rfl rfl rfl rfl
   | 0,_ =>
     have ht0 := hcell _ _ _ h.t0
     have hrc := hcell _ _ _ h.quo
     have hle : Lib.countByte s 34 ≤ s.length := List.count_le_length
     have hle34 : Lib.countByte s 34 ≤ s.length := List.count_le_length
     clear hcell
     simp only [cA0,Nat.add_zero,d0]
     by_cases hn0 : Lib.countByte s 34 = 0
     ·have hb : (((Lib.countByte s 34 : Nat) : Int) != 0) = false := by rw [hn0]; rfl
      gi_wp2_with (refine ⟨trivial,rfl,?_⟩; refine (callsIn_wide.2 (Tryz.strings_Count_one ⟨s.toArray⟩ 34 _)).mono ?_; rintro e w' ⟨rfl,rfl⟩)
      refine ⟨⟨1,_,Fr.intro _,by omega,rfl,rfl,?_,?_,rfl,rfl,rfl,hsame⟩,?_⟩
      ·rw [cA1,hn0]; rfl
      ·rw [cA1,hn0]; rfl
      ·show 2 - (1 : Int).toNat < 2 - (0 : Int).toNat
       decide
     ·have hb : (((Lib.countByte s 34 : Nat) : Int) != 0) = true := by simp; omega
      have hps : 0 < (ByteArray.mk #[(34 : UInt8)]).size := Nat.one_pos
      have hix : (ByteArray.mk #[(34 : UInt8)])[0].toNat = 34 := rfl
      have hdt : decide (cA s 1 ≠ 0) = true := decide_eq_true (by rw [cA1]; omega)
      gi_wp2_with (refine ⟨trivial,rfl,?_⟩; refine (callsIn_wide.2 (Tryz.strings_Count_one ⟨s.toArray⟩ 34 _)).mono ?_; rintro e w' ⟨rfl,rfl⟩)
      gi_region
      all_goals gi_wp2
      all_goals
       refine ⟨⟨1,_,Fr.intro _,by omega,rfl,rfl,?_,?_,rfl,rfl,rfl,⟨hsame.heap,hsame.os,hsame.tape,hsame.output⟩⟩,?_⟩
       ·rw [cA1]; rfl
       ·rw [hdt]; rfl
       ·show 2 - (1 : Int).toNat < 2 - (0 : Int).toNat
        decide
   | 1,_ =>
     have ht0 := hcell _ _ _ h.t1
     have hrc := hcell _ _ _ h.bsl
     have hle : Lib.countByte s 92 ≤ s.length := List.count_le_length
     have hle34 : Lib.countByte s 34 ≤ s.length := List.count_le_length
     clear hcell
     simp only [cA1]
     by_cases hn0 : Lib.countByte s 92 = 0
     ·have hb : (((Lib.countByte s 92 : Nat) : Int) != 0) = false := by rw [hn0]; rfl
      gi_wp2_with (refine ⟨trivial,rfl,?_⟩; refine (callsIn_wide.2 (Tryz.strings_Count_one ⟨s.toArray⟩ 92 _)).mono ?_; rintro e w' ⟨rfl,rfl⟩)
      refine ⟨⟨2,_,Fr.intro _,by omega,rfl,rfl,?_,?_,rfl,rfl,rfl,hsame⟩,?_⟩
      ·rw [cA2,hn0]; rfl
      ·rw [cA2,hn0]; rfl
      ·show 2 - (2 : Int).toNat < 2 - (1 : Int).toNat
       decide
     ·have hb : (((Lib.countByte s 92 : Nat) : Int) != 0) = true := by simp; omega
      have hps : 0 < (ByteArray.mk #[(92 : UInt8)]).size := Nat.one_pos
      have hix : (ByteArray.mk #[(92 : UInt8)])[0].toNat = 92 := rfl
      have hdt : decide (cA s 2 ≠ 0) = true := decide_eq_true (by rw [cA2]; omega)
      gi_wp2_with (refine ⟨trivial,rfl,?_⟩; refine (callsIn_wide.2 (Tryz.strings_Count_one ⟨s.toArray⟩ 92 _)).mono ?_; rintro e w' ⟨rfl,rfl⟩)
      gi_region
      all_goals gi_wp2
      all_goals
       refine ⟨⟨2,_,Fr.intro _,by omega,rfl,rfl,?_,?_,rfl,rfl,rfl,⟨hsame.heap,hsame.os,hsame.tape,hsame.output⟩⟩,?_⟩
       ·rw [cA2]; exact congrArg (Value.int .i64) (by omega)
       ·rw [hdt]; rfl
       ·show 2 - (2 : Int).toNat < 2 - (1 : Int).toNat
        decide
 ·have hd : decide ((16 : Int) ≤ (s.length : Int)) = false := decide_eq_false (by omega)
  gi_wp2
  rename_i Q' K hK
  have hT : ∀ (W : World) (a : Act) (j : Nat → Value),SameW w W → Fr 122 a j → j 0 = .pointer (some ⟨R,0,none⟩) → j 1 = .string ⟨s.toArray⟩ → j 5 = .int .i64 ((s.length + cntS s : Nat) : Int) → j 6 = .bool (decide (cntS s ≠ 0)) → K a W :=
   fun W a j h1 h2 h3 h4 h5 h6 => hK a W (tail300 s hs w W R A B T ca cb ct h h1 a j h2 h3 h4 h5 h6)
  clear hK
  refine wpIn_loop (fun a' W' => ∃ (i : Nat) (j : Nat → Value),Fr 122 a' j ∧ i ≤ s.length ∧ j 0 = .pointer (some ⟨R,0,none⟩) ∧ j 1 = .string ⟨s.toArray⟩ ∧ j 5 = .int .i64 ((s.length + cntS (s.take i) : Nat) : Int) ∧ j 6 = .bool (decide (cntS (s.take i) ≠ 0)) ∧
   j 10 = .int .i64 (i : Int) ∧ SameW w W')
   (fun a' _ => s.length - iOf (a'.tmps.getD 10 undef)) ?start ?round
  case start =>
   exact ⟨0,_,Fr.intro _,Nat.zero_le _,rfl,rfl,rfl,rfl,rfl,⟨rfl,rfl,rfl,rfl⟩⟩
  case round =>
   rintro a' W' ⟨i,j',hfr',hi,g0,g1,g5,g6,g10,hsame⟩
   obtain rfl := hfr'
   rw [arr122]
   simp only [g0,g1,g5,g6,g10]
   have hcell : ∀ b o v,w.cell? ⟨b,o,none⟩ = some v → W'.cell? ⟨b,o,none⟩ = some v := fun b o v hv => by
    rw [← hv]
    simp only [World.cell?,hsame.heap]
   by_cases hlt : i < s.length
   ·obtain ⟨c,hcc⟩ : ∃ c,s[i]? = some c := ⟨_,List.getElem?_eq_getElem hlt⟩
    have hps : i < (ByteArray.mk s.toArray).size := hlt
    have hix : (ByteArray.mk s.toArray)[i] = c := by
     have := (List.getElem?_eq_some_iff.1 hcc).2
     rw [← this]
     rfl
    have hc256 : c.toNat < 256 := c.toNat_lt
    have hc256' : (c.toNat : Int) < 256 := by omega
    have hnn : ∀ w,(binOp .neq 120 (.slice none 0 0) (.slice none 0 0)).run Tryz.prog w = .ok (.bool false) w := fun _ => by kernel_rfl
    have hnz : ∀ (b : Addr) (l c : Nat) w,(binOp .neq 120 (.slice (some b) l c) (.slice none 0 0)).run Tryz.prog w = .ok (.bool true) w := fun _ _ _ _ => by kernel_rfl
    have hsn : cntS (s.take (i + 1)) = cntS (s.take i) + (if spec c = true then 1 else 0) := by
     rw [List.take_add_one,hcc]
     unfold cntS
     rw [List.filter_append,List.length_append]
     congr 1
     show (List.filter spec [c]).length = _
     by_cases hsp : spec c = true
     ·simp [hsp]
     ·simp [hsp]
    have hct : cntS (s.take i) ≤ s.length := Nat.le_trans (List.length_filter_le _ _) (List.length_take_le' _ _)
    generalize hZ : cntS (s.take i) = Z at hsn hct
    by_cases hsp : spec c = true
    ·rcases (spec_iff c).1 hsp with rfl | rfl
     ·have hrc := hcell _ _ _ h.quo
      clear hcell
      gi_wp2
      refine ⟨⟨i + 1,_,Fr.intro _,hlt,rfl,rfl,?_,?_,?_,hsame⟩,?_⟩
      ·show Value.int .i64 (_ : Int) = .int .i64 ((s.length + cntS (s.take (i + 1)) : Nat) : Int)
       rw [hsn]
       exact congrArg (Value.int .i64) (by simp only [hsp,if_true]; omega)
      ·show Value.bool true = .bool (decide (cntS (s.take (i + 1)) ≠ 0))
       rw [hsn,hsp]
       exact congrArg Value.bool (decide_eq_true (by rw [if_pos rfl]; omega)).symm
      ·rfl
      ·show s.length - ((i : Int) + 1).toNat < s.length - ((i : Int)).toNat
       omega
     ·have hrc := hcell _ _ _ h.bsl
      clear hcell
      gi_wp2
      refine ⟨⟨i + 1,_,Fr.intro _,hlt,rfl,rfl,?_,?_,?_,hsame⟩,?_⟩
      ·show Value.int .i64 (_ : Int) = .int .i64 ((s.length + cntS (s.take (i + 1)) : Nat) : Int)
       rw [hsn]
       exact congrArg (Value.int .i64) (by simp only [hsp,if_true]; omega)
      ·show Value.bool true = .bool (decide (cntS (s.take (i + 1)) ≠ 0))
       rw [hsn,hsp]
       exact congrArg Value.bool (decide_eq_true (by rw [if_pos rfl]; omega)).symm
      ·rfl
      ·show s.length - ((i : Int) + 1).toNat < s.length - ((i : Int)).toNat
       omega
    ·have hrc : W'.cell? ⟨R,c.toNat,none⟩ = some (.slice none 0 0) := hcell _ _ _ (h.none c.toNat hc256 (fun e => hsp ((spec_iff c).2 (.inl (UInt8.toNat_inj.1 e)))) (fun e => hsp ((spec_iff c).2 (.inr (UInt8.toNat_inj.1 e)))))
     clear hcell
     gi_wp2
     refine ⟨⟨i + 1,_,Fr.intro _,hlt,rfl,rfl,?_,?_,?_,hsame⟩,?_⟩
     ·rw [hsn,if_neg hsp]; rfl
     ·rw [hsn,if_neg hsp]; rfl
     ·rfl
     ·show s.length - ((i : Int) + 1).toNat < s.length - ((i : Int)).toNat
      omega
   ·obtain rfl : i = s.length := by omega
    have hd2 : s.take s.length = s := List.take_length
    rw [hd2]
    gi_wp2
    exact hT W' _ _ hsame (Fr.intro _) rfl rfl rfl rfl
end Go.Proofs

