/- Several texts in one: sync.Once as querylang's quote uses it, in the kit's own manner and what follows. No condition. -/
import Derived.Laws.LoneSync
import Derived.RegionTactic
import Derived.RegionCalls
import Derived.ChangeAlike
import Derived.RecoverIn
import Derived.Test.YtpoefbbfhebakaaGreatDoorCR1
import Derived.Laws.IdiomStrings
set_option linter.unusedVariables false
set_option linter.unusedSimpArgs false

section
namespace Go.Proofs
open Go.RowKit Go.Shelf Qv
attribute [local go_sem] Oper.semAt_some
theorem disableQ (w : World) : (callFunc 250 #[]).run Tryz.prog w = .ok (.value (.tuple #[])) w := run_call_mark0 Tryz.func250 (by kernel_rfl) (by kernel_rfl) (by kernel_rfl) .disable (by kernel_rfl) w
theorem enableQ (w : World) : (callFunc 252 #[]).run Tryz.prog w = .ok (.value (.tuple #[])) w := run_call_mark0 Tryz.func252 (by kernel_rfl) (by kernel_rfl) (by kernel_rfl) .enable (by kernel_rfl) w
theorem acquireQ (a : Addr) (w : World) : (callFunc 253 #[.pointer (some a)]).run Tryz.prog w = .ok (.value (.tuple #[])) w := run_call_marked Tryz.func253 (by kernel_rfl) (by kernel_rfl) (by kernel_rfl) .acquire (by kernel_rfl) a w
theorem releaseMergeQ (a : Addr) (w : World) : (callFunc 255 #[.pointer (some a)]).run Tryz.prog w = .ok (.value (.tuple #[])) w := run_call_marked Tryz.func255 (by kernel_rfl) (by kernel_rfl) (by kernel_rfl) .releaseMerge (by kernel_rfl) a w
theorem wideFn (f : FuncId) : Fence.wide.fn f = True := eq_true trivial
theorem wideD : Fence.wide.depth = none := rfl
attribute [local simp] wideFn wideD
attribute [local go_sem] wideFn wideD
theorem store_deferredQ (a : Addr) (x : Value) (u : FrameMode) (w : World) (hc : w.cell? a = some x) (hz : w.frozen? a = false) :
 CallsDIn Fence.wide 0 Tryz.prog 214 #[.pointer (some a),.bool true] u w fun e u' w' => u' = u ∧ (e = .returned (.tuple #[]) ∧ w' = w.drew.setCell a (.int .u32 1)) := by
 have hc' : w.drew.cell? a = some x := by go_simp
 have hz' : w.drew.frozen? a = false := by go_simp
 have hst := run_call_store (P := Tryz.prog) Tryz.func238 (by kernel_rfl) (by kernel_rfl) (by kernel_rfl) (by kernel_rfl) (k := .u32) (y := 1) hc' hz'
 gi_enter_d Tryz.func214,Tryz.ntmps214
 gi_wp2
 gi_region
 all_goals (go_end0; exact ⟨rfl,rfl⟩)
set_option maxRecDepth 100000 in
set_option maxHeartbeats 1600000 in
theorem unlock_deferredQ (a : Addr) (u : FrameMode) (w : World) (hc : w.cell? a = some (.int .i32 1)) (hz : w.frozen? a = false) :
 CallsDIn Fence.wide 0 Tryz.prog 213 #[.pointer (some a)] u w fun e u' w' => u' = u ∧ (e = .returned (.tuple #[]) ∧ w' = w.setCell a (.int .i32 0)) := by
 have hd := disableQ
 have he := enableQ
 have hr := releaseMergeQ
 have hadd := run_call_add (P := Tryz.prog) Tryz.func256 (by kernel_rfl) (by kernel_rfl) (by kernel_rfl) .i32 (by kernel_rfl) (y := -1) (s := 0) hc hz (by simp [go_sem]; rfl)
 have hcv := run_convert_to_unsafe (P := Tryz.prog) (src := 268) (dst := 236) (t := 147) (by kernel_rfl) (by kernel_rfl) (by kernel_rfl) hc
 gi_enter_d Tryz.func213,Tryz.ntmps213
 gi_wp2
 go_end0
 exact ⟨rfl,rfl⟩
set_option maxRecDepth 100000 in
set_option maxHeartbeats 1600000 in
theorem lock_freeQ (a : Addr) (w : World) (hc : w.cell? a = some (.int .i32 0)) (hz : w.frozen? a = false) :
 CallsIn Fence.wide 0 Tryz.prog 212 #[.pointer (some a)] w fun e w' => e = .returned (.tuple #[]) ∧ w' = w.setCell a (.int .i32 1) := by
 have hd := disableQ
 have he := enableQ
 have ha := acquireQ
 have hcas := run_call_cas_hit (P := Tryz.prog) Tryz.func251 (by kernel_rfl) (by kernel_rfl) (by kernel_rfl) .i32 (by kernel_rfl) (y := 1) hc hz
 have hc' : (w.setCell a (.int .i32 1)).cell? a = some (.int .i32 1) := World.cell?_setCell_same w a _ hc
 have hcv := run_convert_to_unsafe (P := Tryz.prog) (src := 268) (dst := 236) (t := 147) (by kernel_rfl) (by kernel_rfl) (by kernel_rfl) hc'
 gi_enter Tryz.func212,Tryz.ntmps212
 gi_wp2
 first | go_end0 | (simp only [Exit.inBlock,Exit.then]; refine bodyPost_ret (results_none rfl _ _ _) rfl ?_) | refine bodyPost_ret (results_none rfl _ _ _) rfl ?_
 gi_wp2
 go_end0
 exact ⟨rfl,rfl⟩
end Go.Proofs

end

section
namespace Go.Proofs
open Go.RowKit Go.Shelf Qv
attribute [local go_sem] Oper.semAt_some wideFn wideD
attribute [local simp] wideFn wideD
structure TextsAt (W : World) (L : Nat) : Prop where
 l0 : W.cell? ⟨L,0,none⟩ = some (.string ⟨#[92]⟩)
 l1 : W.cell? ⟨L,1,none⟩ = some (.string ⟨#[92,92]⟩)
 l2 : W.cell? ⟨L,2,none⟩ = some (.string ⟨#[34]⟩)
 l3 : W.cell? ⟨L,3,none⟩ = some (.string ⟨#[92,34]⟩)
theorem zero230 : Tryz.zeroCells230.toList = List.replicate 257 (.slice none 0 0) := by kernel_rfl
theorem setCells_other (b : Nat) : ∀ (vs : List Value) (o : Nat) (w : World),(∀ k,k ≠ b → (w.setCells b o vs).heap[k]? = w.heap[k]?) ∧ (w.setCells b o vs).heap.size = w.heap.size ∧ (w.setCells b o vs).os = w.os ∧ (w.setCells b o vs).tape = w.tape ∧ (w.setCells b o vs).output = w.output
 | [],_,_ => ⟨fun _ _ => rfl,rfl,rfl,rfl,rfl⟩
 | v :: r,o,w => by
   obtain ⟨h1,h2,h3,h4,h5⟩ := setCells_other b r (o + 1) (w.setCell ⟨b,o,none⟩ v)
   refine ⟨fun k hk => ?_,?_,h3,h4,h5⟩
   ·rw [World.setCells,h1 k hk,RowKit.Below.heap_setCell _ _ _ _ hk]
   ·rw [World.setCells,h2]
    simp only [World.setCell,Array.size_modify]
theorem fill230 (w : World) : ∃ W3,(storeCells ⟨w.heap.size + 1,0,none⟩ (Tryz.zeroCells230.toList.set 256 (.slice (some ⟨w.heap.size,0,none⟩) 0 2))).run Tryz.prog
 ((w.alloc (.cells #[.string ⟨#[]⟩,.string ⟨#[]⟩] 9)).alloc (.cells Tryz.zeroCells230 230)) = .ok () W3 ∧
 (∀ k,k < 256 → W3.cell? ⟨w.heap.size + 1,k,none⟩ = some (.slice none 0 0)) ∧ W3.cell? ⟨w.heap.size + 1,256,none⟩ = some (.slice (some ⟨w.heap.size,0,none⟩) 0 2) ∧ (∀ k,W3.frozen? ⟨w.heap.size + 1,k,none⟩ = false) ∧
 W3.heap[w.heap.size]? = some (.cells #[.string ⟨#[]⟩,.string ⟨#[]⟩] 9) ∧ W3.heap.size = w.heap.size + 2 ∧ RowKit.Below w.heap.size w W3 := by
 have hl : (Tryz.zeroCells230.toList.set 256 (.slice (some ⟨w.heap.size,0,none⟩) 0 2)).length = 257 := by rw [List.length_set,zero230,List.length_replicate]
 have hh : ((w.alloc (.cells #[.string ⟨#[]⟩,.string ⟨#[]⟩] 9)).alloc (.cells Tryz.zeroCells230 230)).heap[w.heap.size + 1]? = some (.cells Tryz.zeroCells230 230) := by
  rw [alloc_heap,if_pos (by rw [World.size_alloc])]
 have hz : Tryz.zeroCells230.size = 257 := by rw [← Array.length_toList,zero230,List.length_replicate]
 have hcs : ∀ j,j < 257 → (((w.alloc (.cells #[.string ⟨#[]⟩,.string ⟨#[]⟩] 9)).alloc (.cells Tryz.zeroCells230 230)).cell? ⟨w.heap.size + 1,0 + j,none⟩).isSome = true := fun j hj => by
  simp only [World.cell?,hh]
  simp [hz,hj]
 refine ⟨_,run_storeCells_cells (P := Tryz.prog) (w.heap.size + 1) 0 _ 0 _ ?_ ?_ ?_,?_,?_,?_,?_,?_,?_⟩
 ·rw [hl]; exact fun j hj => hcs j hj
 ·intro j hj
  simp only [World.frozen?,hh]
  simp
 ·intro v hv
  rcases List.mem_or_eq_of_mem_set hv with hv | rfl
  ·rw [zero230] at hv
   rw [List.eq_of_mem_replicate hv]
   rfl
  ·rfl
 ·intro k hk
  have := World.cell?_setCells_in (w.heap.size + 1) (Tryz.zeroCells230.toList.set 256 (.slice (some ⟨w.heap.size,0,none⟩) 0 2)) 0 _ (by rw [hl]; exact hcs) k (by rw [hl]; omega)
  rw [Nat.zero_add] at this
  rw [Nat.add_zero,this,List.getElem_set_ne (by omega)]
  simp only [zero230,List.getElem_replicate]
 ·have := World.cell?_setCells_in (w.heap.size + 1) (Tryz.zeroCells230.toList.set 256 (.slice (some ⟨w.heap.size,0,none⟩) 0 2)) 0 _ (by rw [hl]; exact hcs) 256 (by rw [hl]; omega)
  rw [Nat.zero_add] at this
  rw [Nat.add_zero,this,List.getElem_set_self]
 ·intro k
  rw [World.frozen?_setCells]
  simp only [World.frozen?,hh]
  simp
 ·rw [(setCells_other _ _ _ _).1 _ (by omega),alloc_heap,if_neg (by rw [World.size_alloc]; omega),alloc_heap,if_pos rfl]
 ·rw [(setCells_other _ _ _ _).2.1]
  simp
 ·refine ⟨(setCells_other _ _ _ _).2.2.1,(setCells_other _ _ _ _).2.2.2.1,(setCells_other _ _ _ _).2.2.2.2,?_,fun k hk => ?_⟩
  ·rw [(setCells_other _ _ _ _).2.1]
   simp
   omega
  ·rw [(setCells_other _ _ _ _).1 _ (by omega),alloc_heap,if_neg (by rw [World.size_alloc]; omega),alloc_heap,if_neg (by omega)]
theorem cell_below {w W : World} (h : RowKit.Below w.heap.size w W) {b o : Nat} {v : Value} (hv : w.cell? ⟨b,o,none⟩ = some v) : W.cell? ⟨b,o,none⟩ = some v ∧ b < w.heap.size := by
 have hb : b < w.heap.size := by
  rcases Nat.lt_or_ge b w.heap.size with hb | hb
  ·exact hb
  ·simp [World.cell?,Array.getElem?_eq_none hb] at hv
 refine ⟨?_,hb⟩
 rw [← hv]
 simp only [World.cell?]
 rw [h.block b hb]
theorem genRounds {F : Fence} {n : Nat} {P : Program} {c : Code} {Q : Exit → Act → World → Prop} {m : Nat} {a : Act} {W : World} {φ : World → Prop} (h : φ W) (k : ∀ W,φ W → Code.roundsIn F n P c Q m a W) : Code.roundsIn F n P c Q m a W := k W h
theorem lt_of_cell {X : World} {b o : Nat} {v : Value} (hv : X.cell? ⟨b,o,none⟩ = some v) : b < X.heap.size := by
 rcases Nat.lt_or_ge b X.heap.size with hb | hb
 ·exact hb
 ·simp [World.cell?,Array.getElem?_eq_none hb] at hv
theorem cell_alloc3 {X : World} {b o : Nat} {v : Value} (hv : X.cell? ⟨b,o,none⟩ = some v) (o1 o2 o3 : Obj) : (((X.alloc o1).alloc o2).alloc o3).drew.cell? ⟨b,o,none⟩ = some v := by
 have hb := lt_of_cell hv
 rw [World.cell?_drew]
 simp only [World.cell?,alloc_heap,World.size_alloc] at hv ⊢
 rw [if_neg (by omega),if_neg (by omega),if_neg (by omega)]
 exact hv
theorem frozen_alloc3 {X : World} {b o : Nat} (hb : b < X.heap.size) (hv : X.frozen? ⟨b,o,none⟩ = false) (o1 o2 o3 : Obj) : (((X.alloc o1).alloc o2).alloc o3).drew.frozen? ⟨b,o,none⟩ = false := by
 show (((X.alloc o1).alloc o2).alloc o3).frozen? ⟨b,o,none⟩ = false
 simp only [World.frozen?,alloc_heap,World.size_alloc] at hv ⊢
 rw [if_neg (by omega),if_neg (by omega),if_neg (by omega)]
 exact hv
theorem cell_new3 {X : World} {n k : Nat} {v : Value} {row : Array Value} {T : TypeId} {fz : Nat × Nat} (hn : n = X.heap.size + 2) (o1 o2 : Obj) (h : row[k]? = some v) : (((X.alloc o1).alloc o2).alloc (.cells row T fz)).drew.cell? ⟨n,k,none⟩ = some v := by
 subst hn
 rw [World.cell?_drew]
 simp only [World.cell?,alloc_heap,World.size_alloc]
 rw [if_pos trivial]
 simpa using h
theorem below_alloc3 {B : Nat} {w X : World} (h : RowKit.Below B w X) (o1 o2 o3 : Obj) (hB : B ≤ X.heap.size := by omega) : RowKit.Below B w (((X.alloc o1).alloc o2).alloc o3).drew := by
 have := ((h.alloc hB o1).alloc (by rw [World.size_alloc]; omega) o2).alloc (by rw [World.size_alloc,World.size_alloc]; omega) o3
 exact ⟨this.os,this.tape,this.output,this.size,this.block⟩
theorem cell_set_ne {X : World} {b o o' : Nat} {v : Value} (h : o ≠ o') : (X.setCell ⟨b,o,none⟩ v).cell? ⟨b,o',none⟩ = X.cell? ⟨b,o',none⟩ := World.cell?_setCell_other _ _ _ _ (by simp [h])
theorem cell_set_ne' {X : World} {b b' o o' : Nat} {v : Value} (h : b ≠ b') : (X.setCell ⟨b,o,none⟩ v).cell? ⟨b',o',none⟩ = X.cell? ⟨b',o',none⟩ := World.cell?_setCell_other _ _ _ _ (by simp [h])
theorem row0 (x y : UInt8) (g : Nat) : (bytesRow ⟨#[x,y]⟩ g)[0]? = some (.int .u8 (x.toNat : Int)) := by
 unfold bytesRow
 rw [Array.getElem?_append_left (by simp)]
 simp
theorem row1 (x y : UInt8) (g : Nat) : (bytesRow ⟨#[x,y]⟩ g)[1]? = some (.int .u8 (y.toNat : Int)) := by
 unfold bytesRow
 rw [Array.getElem?_append_left (by simp)]
 simp
structure MidAt (w : World) (L : Nat) (X : World) : Prop where
 l0 : X.cell? ⟨L,0,none⟩ = some (.string ⟨#[92]⟩)
 l1 : X.cell? ⟨L,1,none⟩ = some (.string ⟨#[92,92]⟩)
 t0 : X.cell? ⟨w.heap.size,0,none⟩ = some (.string ⟨#[34]⟩)
 t1 : X.cell? ⟨w.heap.size,1,none⟩ = some (.string ⟨#[]⟩)
 tz : ∀ o,X.frozen? ⟨w.heap.size,o,none⟩ = false
 r6 : X.cell? ⟨w.heap.size + 1,256,none⟩ = some (.slice (some ⟨w.heap.size,0,none⟩) 1 2)
 rz : ∀ o,X.frozen? ⟨w.heap.size + 1,o,none⟩ = false
 sz : X.heap.size = w.heap.size + 5
 r34 : ∃ ca,X.cell? ⟨w.heap.size + 1,34,none⟩ = some (.slice (some ⟨w.heap.size + 4,0,none⟩) 2 ca)
 rn : ∀ k,k < 256 → k ≠ 34 → X.cell? ⟨w.heap.size + 1,k,none⟩ = some (.slice none 0 0)
 a : X.cell? ⟨w.heap.size + 4,0,none⟩ = some (.int .u8 92) ∧ X.cell? ⟨w.heap.size + 4,1,none⟩ = some (.int .u8 34)
 bw : RowKit.Below w.heap.size w X
theorem build_end {w W : World} {e : Ending} {R A B T ca ct : Nat} (he : e = .returned (.iface 231 (.pointer (some ⟨R,0,none⟩)))) (hb : RowKit.Below w.heap.size w W)
 (h0 : ∀ c : Nat,c < 256 → c ≠ 34 → c ≠ 92 → W.cell? ⟨R,c,.none⟩ = some (.slice .none 0 0)) (h1 : W.cell? ⟨R,34,.none⟩ = some (.slice (some ⟨A,0,.none⟩) 2 ca)) (h2 : ∃ cb,W.cell? ⟨R,92,.none⟩ = some (.slice (some ⟨B,0,.none⟩) 2 cb))
 (h3 : W.cell? ⟨R,256,.none⟩ = some (.slice (some ⟨T,0,.none⟩) 2 ct)) (h4 : W.cell? ⟨A,0,.none⟩ = some (.int .u8 92)) (h5 : W.cell? ⟨A,1,.none⟩ = some (.int .u8 34)) (h6 : W.cell? ⟨B,0,.none⟩ = some (.int .u8 92)) (h7 : W.cell? ⟨B,1,.none⟩ = some (.int .u8 92))
 (h8 : W.cell? ⟨T,0,.none⟩ = some (.string ⟨#[34]⟩)) (h9 : W.cell? ⟨T,1,.none⟩ = some (.string ⟨#[92]⟩)) :
 ∃ R A B T ca cb ct,e = .returned (.iface 231 (.pointer (some ⟨R,0,none⟩))) ∧ RowKit.Below w.heap.size w W ∧ ReplAt W R A B T ca cb ct := by
 obtain ⟨cb,h2⟩ := h2
 exact ⟨R,A,B,T,ca,cb,ct,he,hb,⟨h0,h1,h2,h3,h4,h5,h6,h7,h8,h9⟩⟩
set_option maxRecDepth 100000 in
set_option maxHeartbeats 2000000 in
theorem build_in (w : World) (R0 L cap : Nat) (h4 : w.cell? ⟨R0,4,none⟩ = some (.slice (some ⟨L,0,none⟩) 4 cap)) (h : TextsAt w L) :
 CallsIn Fence.wide 0 Tryz.prog 193 #[.pointer (some ⟨R0,0,none⟩)] w fun e w' => ∃ R A B T ca cb ct,e = .returned (.iface 231 (.pointer (some ⟨R,0,none⟩))) ∧ RowKit.Below w.heap.size w w' ∧ ReplAt w' R A B T ca cb ct := by
 obtain ⟨l0,l1,l2,l3⟩ := h
 have hmk : (Instr.makeSlice 44 (.int .i64 0) (.int .i64 2)).run Tryz.prog w = .ok (.slice (some ⟨w.heap.size,0,none⟩) 0 2) (w.alloc (.cells #[.string ⟨#[]⟩,.string ⟨#[]⟩] 9)) := by
  have hi : (Tryz.prog.info? 9).map (fun i => (i.size,i.bytes,i.zero)) = some (1,16,some (.string ⟨#[]⟩)) := by kernel_rfl
  obtain ⟨i,hi,he⟩ := Option.map_eq_some_iff.1 hi
  simp only [Prod.mk.injEq] at he
  have := run_make (P := Tryz.prog) w 44 9 i (.string ⟨#[]⟩) (by kernel_rfl) hi he.2.2 .i64 .i64 0 2 (by omega) (by omega) (by rw [he.2.1]; omega) (by omega)
  rw [this,he.1]
  congr 3
  exact made_one _ _
 obtain ⟨W3,hst,r1,r2,r3,r4,r5,r6⟩ := fill230 w
 gi_enter Tryz.func193,Tryz.ntmps193
 gi_wp2
 refine wpIn_loop_rounds 3 ?_
 rw [roundsIn_succ]
 gi_wp2
 rw [roundsIn_succ]
 gi_wp2
 rw [roundsIn_succ]
 gi_wp2
 have m0 := (cell_below r6 l0).1
 have m1 := (cell_below r6 l1).1
 have m2 := (cell_below r6 l2).1
 have m3 := (cell_below r6 l3).1
 have hL := (cell_below r6 l0).2
 have hnil : ∀ w,(binOp .eql 120 (.slice none 0 0) (.slice none 0 0)).run Tryz.prog w = .ok (.bool true) w := fun _ => by kernel_rfl
 have r34 := r1 34 (by omega)
 have r92 := r1 92 (by omega)
 have hcv34 : ∀ (W : World) (b : Nat),W.cell? ⟨b,0,none⟩ = some (.int .u8 34) → (convert 120 9 (.slice (some ⟨b,0,none⟩) 1 1)).run Tryz.prog W = .ok (.string ⟨#[34]⟩) W := fun W b hc =>
  run_convert_bytes_arg (P := Tryz.prog) W 120 5 (by kernel_rfl) (by kernel_rfl) b 0 1 1 [34] rfl (fun i hi => by have e : i = 0 := (by omega); rw [e]; exact hc) 9 (by kernel_rfl)
 have hcv92 : ∀ (W : World) (b : Nat),W.cell? ⟨b,0,none⟩ = some (.int .u8 92) → (convert 120 9 (.slice (some ⟨b,0,none⟩) 1 1)).run Tryz.prog W = .ok (.string ⟨#[92]⟩) W := fun W b hc =>
  run_convert_bytes_arg (P := Tryz.prog) W 120 5 (by kernel_rfl) (by kernel_rfl) b 0 1 1 [92] rfl (fun i hi => by have e : i = 0 := (by omega); rw [e]; exact hc) 9 (by kernel_rfl)
 have t0 : W3.cell? ⟨w.heap.size,0,none⟩ = some (.string ⟨#[]⟩) := by simp [World.cell?,r4]
 have t1 : W3.cell? ⟨w.heap.size,1,none⟩ = some (.string ⟨#[]⟩) := by simp [World.cell?,r4]
 have tz : ∀ o,W3.frozen? ⟨w.heap.size,o,none⟩ = false := fun o => by simp [World.frozen?,r4]
 have hsb1 : ∀ W : World,(convert 9 120 (.string ⟨#[92,34]⟩)).run Tryz.prog W = .ok (.slice (some ⟨W.heap.size,0,none⟩) 2 (grownCap W 2 0 5)) (W.drew.alloc (.cells (bytesRow ⟨#[92,34]⟩ (grownCap W 2 0 5)) 5 ((bytesRow ⟨#[92,34]⟩ (grownCap W 2 0 5)).size,(bytesRow ⟨#[92,34]⟩ (grownCap W 2 0 5)).size + 1))) :=
  fun W => run_bytes_of_string (P := Tryz.prog) W 9 120 5 ⟨#[92,34]⟩ (by kernel_rfl) (by kernel_rfl) (by kernel_rfl)
 have hsb2 : ∀ W : World,(convert 9 120 (.string ⟨#[92,92]⟩)).run Tryz.prog W = .ok (.slice (some ⟨W.heap.size,0,none⟩) 2 (grownCap W 2 0 5)) (W.drew.alloc (.cells (bytesRow ⟨#[92,92]⟩ (grownCap W 2 0 5)) 5 ((bytesRow ⟨#[92,92]⟩ (grownCap W 2 0 5)).size,(bytesRow ⟨#[92,92]⟩ (grownCap W 2 0 5)).size + 1))) :=
  fun W => run_bytes_of_string (P := Tryz.prog) W 9 120 5 ⟨#[92,92]⟩ (by kernel_rfl) (by kernel_rfl) (by kernel_rfl)
 have hps1 : 0 < (ByteArray.mk #[(34 : UInt8)]).size := Nat.one_pos
 have hix1 : (ByteArray.mk #[(34 : UInt8)])[0].toNat = 34 := rfl
 have hps2 : 0 < (ByteArray.mk #[(92 : UInt8)]).size := Nat.one_pos
 have hix2 : (ByteArray.mk #[(92 : UInt8)])[0].toNat = 92 := rfl
 refine wpIn_loop_rounds 3 ?_
 rw [roundsIn_succ]
 gi_wp2
 refine genRounds (φ := MidAt w L) ?_ ?_
 ·refine ⟨?_,?_,?_,?_,?_,?_,?_,?_,?_,?_,?_,?_⟩
  ·exact cell_alloc3 (by simp [go_sem,m0]) _ _ _
  ·exact cell_alloc3 (by simp [go_sem,m1]) _ _ _
  ·exact cell_alloc3 (by simp [go_sem,t0]) _ _ _
  ·exact cell_alloc3 (by simp [go_sem,t1]) _ _ _
  ·exact fun o => frozen_alloc3 (by simp [go_sem]; omega) (by simp [go_sem,tz]) _ _ _
  ·exact cell_alloc3 (by simp [go_sem,r2]) _ _ _
  ·exact fun o => frozen_alloc3 (by simp [go_sem]; omega) (by simp [go_sem,r3]) _ _ _
  ·simp [go_sem,r5]
  ·exact ⟨_,cell_alloc3 (by simp [go_sem,r34]; rfl) _ _ _⟩
  ·exact fun k hk hk' => cell_alloc3 (by rw [cell_set_ne (by omega),cell_set_ne (by omega),cell_set_ne' (by omega)]; exact r1 k hk) _ _ _
  ·exact ⟨cell_new3 (by simp [go_sem,r5]) _ _ (row0 _ _ _),cell_new3 (by simp [go_sem,r5]) _ _ (row1 _ _ _)⟩
  ·exact below_alloc3 (((r6.setCell (Nat.le_refl _) _).setCell (Nat.le_succ _) _).setCell (Nat.le_succ _) _) _ _ _ (by simp [go_sem,r5])
 clear hst r1 r2 r3 r4 r5 r6 m0 m1 m2 m3 r34 r92 t0 t1 tz
 rintro W4 ⟨k0,k1,k2,k3,k4,k5,k6,k7,⟨ca,k8⟩,k9,k10,k11⟩
 have r92 := k9 92 (by omega) (by omega)
 rw [roundsIn_succ]
 gi_wp2
 rw [roundsIn_succ]
 gi_wp2
 go_ret
 have hne : w.heap.size + 1 ≠ w.heap.size := by omega
 refine build_end (R := w.heap.size + 1) (A := w.heap.size + 4) (B := w.heap.size + 7) (T := w.heap.size) (ca := ca) (ct := 2) rfl (below_alloc3 (((k11.setCell (Nat.le_refl _) _).setCell (Nat.le_succ _) _).setCell (Nat.le_succ _) _) _ _ _ (by simp [go_sem,k7])) ?_ ?_ ?_ ?_ ?_ ?_ ?_ ?_ ?_ ?_
 ·exact fun k hk h1 h2 => cell_alloc3 (by rw [cell_set_ne (by omega),cell_set_ne (by omega),cell_set_ne' (by omega)]; exact k9 k hk h1) _ _ _
 ·exact cell_alloc3 (by simp [go_sem,k8]) _ _ _
 ·exact ⟨_,cell_alloc3 (by simp [go_sem,r92]; rfl) _ _ _⟩
 ·exact cell_alloc3 (by simp [go_sem,k5]) _ _ _
 ·exact cell_alloc3 (by simp [go_sem,k10.1]) _ _ _
 ·exact cell_alloc3 (by simp [go_sem,k10.2]) _ _ _
 ·exact cell_new3 (by simp [go_sem,k7]) _ _ (row0 _ _ _)
 ·exact cell_new3 (by simp [go_sem,k7]) _ _ (row1 _ _ _)
 ·exact cell_alloc3 (by simp [go_sem,k2]) _ _ _
 ·exact cell_alloc3 (by simp [go_sem,k3]) _ _ _
end Go.Proofs

end

section
namespace Go.Proofs
open Go.RowKit Go.Shelf Qv
attribute [local go_sem] Oper.semAt_some wideFn wideD
attribute [local simp] wideFn wideD
structure NewAt (W : World) (R0 L : Nat) (cap : Nat) : Prop where
 d : W.cell? ⟨R0,0,none⟩ = some (.int .u32 0)
 m : W.cell? ⟨R0,1,none⟩ = some (.int .i32 0)
 r : W.cell? ⟨R0,3,none⟩ = some .nilIface
 o : W.cell? ⟨R0,4,none⟩ = some (.slice (some ⟨L,0,none⟩) 4 cap)
 z : ∀ k,W.frozen? ⟨R0,k,none⟩ = false
 t : TextsAt W L
set_option maxRecDepth 100000 in
set_option maxHeartbeats 2000000 in
theorem buildOnce_in (w : World) (R0 L cap : Nat) (x : Value) (h3 : w.cell? ⟨R0,3,none⟩ = some x) (h4 : w.cell? ⟨R0,4,none⟩ = some (.slice (some ⟨L,0,none⟩) 4 cap)) (hz : ∀ k,w.frozen? ⟨R0,k,none⟩ = false) (h : TextsAt w L) :
 CallsIn Fence.wide 0 Tryz.prog 168 #[.pointer (some ⟨R0,0,none⟩)] w fun e w' => ∃ R A B T ca cb ct W1,e = .returned (.tuple #[]) ∧ RowKit.Below w.heap.size w W1 ∧ ReplAt W1 R A B T ca cb ct ∧
  w' = (W1.setCell ⟨R0,3,none⟩ (.iface 231 (.pointer (some ⟨R,0,none⟩)))).setCell ⟨R0,4,none⟩ (.slice none 0 0) := by
 have hf : ∀ W1,RowKit.Below w.heap.size w W1 → W1.cell? ⟨R0,3,none⟩ = some x ∧ W1.cell? ⟨R0,4,none⟩ = some (.slice (some ⟨L,0,none⟩) 4 cap) ∧ ∀ k,W1.frozen? ⟨R0,k,none⟩ = false := fun W1 hb =>
  ⟨(cell_below hb h3).1,(cell_below hb h4).1,fun k => by rw [← hz k]; simp only [World.frozen?,hb.block R0 (cell_below hb h3).2]⟩
 gi_enter Tryz.func168,Tryz.ntmps168
 gi_wp2_with (gi_at_call 193; refine (build_in w R0 L cap h4 h).mono ?_; rintro e W1 ⟨R,A,B,T,ca,cb,ct,rfl,hb1,hr1⟩; obtain ⟨g3,g4,gz⟩ := hf W1 hb1)
 go_end0
 exact ⟨R,A,B,T,ca,cb,ct,W1,rfl,hb1,hr1,rfl⟩
def doneW (W1 : World) (R0 R : Nat) : World :=
 (((W1.setCell ⟨R0,3,none⟩ (.iface 231 (.pointer (some ⟨R,0,none⟩)))).setCell ⟨R0,4,none⟩ (.slice none 0 0)).drew.setCell ⟨R0,0,none⟩ (.int .u32 1)).setCell ⟨R0,1,none⟩ (.int .i32 0)
theorem set_below {w : World} {R0 o : Nat} (v : Value) : (∀ k,k ≠ R0 → (w.setCell ⟨R0,o,none⟩ v).heap[k]? = w.heap[k]?) ∧ (w.setCell ⟨R0,o,none⟩ v).heap.size = w.heap.size :=
 ⟨fun k hk => RowKit.Below.heap_setCell _ _ _ _ hk,by simp only [World.setCell,Array.size_modify]⟩
set_option maxRecDepth 100000 in
set_option maxHeartbeats 2000000 in
theorem doSlow_in (w : World) (R0 L cap : Nat) (h : NewAt w R0 L cap) (hne : L ≠ R0) :
 CallsIn Fence.wide 0 Tryz.prog 192 #[.pointer (some ⟨R0,0,none⟩),.func (.func 168) #[.pointer (some ⟨R0,0,none⟩)] #[]] w fun e w' => ∃ R A B T ca cb ct W1,e = .returned (.tuple #[]) ∧ RowKit.Below w.heap.size (w.setCell ⟨R0,1,none⟩ (.int .i32 1)) W1 ∧ ReplAt W1 R A B T ca cb ct ∧ w' = doneW W1 R0 R := by
 obtain ⟨h0,h1,h3,h4,hz,l0,l1,l2,l3⟩ := h
 have hne' : R0 ≠ L := fun e => hne e.symm
 have hl := run_call_load (P := Tryz.prog) Tryz.func211 (by kernel_rfl) (by kernel_rfl) (by kernel_rfl) .u32 (by kernel_rfl) (w := w.setCell ⟨R0,1,none⟩ (.int .i32 1)) (a := ⟨R0,0,none⟩) (x := 0) ((World.cell?_setCell_other _ ⟨R0,1,none⟩ ⟨R0,0,none⟩ _ (by simp)).trans h0)
 have hnot : ∀ (x : Bool) (w : World),(Op.unary .not (.bool x)).run Tryz.prog w = .ok (.bool (!x)) w := fun _ _ => rfl
 have hbo := buildOnce_in (w.setCell ⟨R0,1,none⟩ (.int .i32 1)) R0 L cap .nilIface (by simp [go_sem,h3]) (by simp [go_sem,h4]) (fun k => by simp [go_sem,hz])
  ⟨by rw [cell_set_ne' hne']; exact l0,by rw [cell_set_ne' hne']; exact l1,by rw [cell_set_ne' hne']; exact l2,by rw [cell_set_ne' hne']; exact l3⟩
 have hsz := (set_below (w := w) (R0 := R0) (o := 1) (.int .i32 1)).2
 rw [hsz] at hbo
 gi_enter_defers Tryz.func192,Tryz.ntmps192
 gi_wp2_with (first
  | (gi_at_call 212; refine (lock_freeQ ⟨R0,1,none⟩ _ (by go_simp) (by go_simp)).mono ?_; rintro e w' ⟨rfl,rfl⟩)
  | (gi_at_call 168; refine hbo.mono ?_; rintro e w' ⟨R,A,B,T,ca,cb,ct,W1,rfl,hb1,hr1,rfl⟩)
  | (gi_at_call 191; gi_in))
 have hR0 := lt_of_cell h0
 have c0 : W1.cell? ⟨R0,0,none⟩ = some (.int .u32 0) := by
  simp only [World.cell?,hb1.block R0 hR0]
  exact (World.cell?_setCell_other w ⟨R0,1,none⟩ ⟨R0,0,none⟩ _ (by simp)).trans h0
 have c1 : W1.cell? ⟨R0,1,none⟩ = some (.int .i32 1) := by
  simp only [World.cell?,hb1.block R0 hR0]
  exact World.cell?_setCell_same w ⟨R0,1,none⟩ _ h1
 have cz : ∀ k,W1.frozen? ⟨R0,k,none⟩ = false := fun k => by
  have : (w.setCell ⟨R0,1,none⟩ (.int .i32 1)).frozen? ⟨R0,k,none⟩ = false := by simp [go_sem,hz]
  rw [← this]
  simp only [World.frozen?,hb1.block R0 hR0]
 refine leavesIn_cons (f := 214) (args := #[.pointer (some ⟨R0,0,none⟩),.bool true]) (by simp) (fun h => by cases h) (by simp [go_sem]) (fun _ _ => trivial) ?_
 refine (store_deferredQ ⟨R0,0,none⟩ (.int .u32 0) .returning _ (by simp [go_sem,c0]) (by simp [go_sem,cz])).mono ?_
 rintro e u' w'' ⟨rfl,rfl,rfl⟩
 refine leavesIn_cons (f := 213) (args := #[.pointer (some ⟨R0,1,none⟩)]) (by simp [settle]) (fun h => by cases h) (by simp [go_sem]) (fun _ _ => trivial) ?_
 refine (unlock_deferredQ ⟨R0,1,none⟩ _ _ (by simp [go_sem,c1]) (by simp [go_sem,cz])).mono ?_
 rintro e u' w'' ⟨rfl,rfl,rfl⟩
 have hr : Tryz.f192.results = #[] := rfl
 simp only [LeavesIn,settle]
 refine ⟨_,?_,R,A,B,T,ca,cb,ct,W1,rfl,hb1,hr1,rfl⟩
 simp [results,hr,go_sem]
theorem cell_doneW {W1 : World} {R0 R b o : Nat} (hb : R0 ≠ b) : (doneW W1 R0 R).cell? ⟨b,o,none⟩ = W1.cell? ⟨b,o,none⟩ := by
 unfold doneW
 rw [cell_set_ne' hb,cell_set_ne' hb,World.cell?_drew,cell_set_ne' hb,cell_set_ne' hb]
theorem doneW_repl {W1 : World} {R0 R A B T ca cb ct : Nat} (h : ReplAt W1 R A B T ca cb ct) (h0 : W1.cell? ⟨R0,0,none⟩ = some (.int .u32 0)) : ReplAt (doneW W1 R0 R) R A B T ca cb ct := by
 have nR : R0 ≠ R := fun e => by have := h.none 0 (by omega) (by omega) (by omega); rw [← e,h0] at this; cases this
 have nA : R0 ≠ A := fun e => by have := h.a0; rw [← e,h0] at this; cases this
 have nB : R0 ≠ B := fun e => by have := h.b0; rw [← e,h0] at this; cases this
 have nT : R0 ≠ T := fun e => by have := h.t0; rw [← e,h0] at this; cases this
 exact ⟨fun c h1 h2 h3 => (cell_doneW nR).trans (h.none c h1 h2 h3),(cell_doneW nR).trans h.quo,(cell_doneW nR).trans h.bsl,(cell_doneW nR).trans h.tab,(cell_doneW nA).trans h.a0,(cell_doneW nA).trans h.a1,(cell_doneW nB).trans h.b0,(cell_doneW nB).trans h.b1,(cell_doneW nT).trans h.t0,(cell_doneW nT).trans h.t1⟩
theorem doneW_but {w W1 : World} {R0 R o : Nat} {v : Value} (h : RowKit.Below w.heap.size (w.setCell ⟨R0,o,none⟩ v) W1) : ButQ R0 w (doneW W1 R0 R) := by
 have hs := (set_below (w := w) (R0 := R0) (o := o) v)
 refine ⟨h.os,h.tape,h.output,?_,fun k hk hne => ?_⟩
 ·have := h.size
  unfold doneW
  rw [set_below _ |>.2,set_below _ |>.2]
  show w.heap.size ≤ ((W1.setCell _ _).setCell _ _).heap.size
  rw [set_below _ |>.2,set_below _ |>.2]
  rw [hs.2] at this
  exact this
 ·unfold doneW
  rw [(set_below _).1 k hne,(set_below _).1 k hne]
  show ((W1.setCell _ _).setCell _ _).heap[k]? = _
  rw [(set_below _).1 k hne,(set_below _).1 k hne,h.block k hk,hs.1 k hne]
set_option maxRecDepth 100000 in
set_option maxHeartbeats 2000000 in
theorem do_in (w : World) (R0 L cap : Nat) (h : NewAt w R0 L cap) (hne : L ≠ R0) :
 CallsIn Fence.wide 0 Tryz.prog 167 #[.pointer (some ⟨R0,0,none⟩),.func (.func 168) #[.pointer (some ⟨R0,0,none⟩)] #[]] w fun e w' => ∃ R A B T ca cb ct,e = .returned (.tuple #[]) ∧ ButQ R0 w w' ∧ ReplAt w' R A B T ca cb ct ∧ w'.cell? ⟨R0,3,none⟩ = some (.iface 231 (.pointer (some ⟨R,0,none⟩))) := by
 have hl := run_call_load (P := Tryz.prog) Tryz.func211 (by kernel_rfl) (by kernel_rfl) (by kernel_rfl) .u32 (by kernel_rfl) (w := w) (a := ⟨R0,0,none⟩) (x := 0) h.d
 have hnot : ∀ (x : Bool) (w : World),(Op.unary .not (.bool x)).run Tryz.prog w = .ok (.bool (!x)) w := fun _ _ => rfl
 have hds := doSlow_in w R0 L cap h hne
 have hR0 := lt_of_cell h.d
 gi_enter Tryz.func167,Tryz.ntmps167
 gi_wp2_with (first
  | (gi_at_call 192; refine hds.mono ?_; rintro e w' ⟨R,A,B,T,ca,cb,ct,W1,rfl,hb1,hr1,rfl⟩)
  | (gi_at_call 191; gi_in))
 go_end0
 have c0 : W1.cell? ⟨R0,0,none⟩ = some (.int .u32 0) := by
  simp only [World.cell?,hb1.block R0 hR0]
  exact (World.cell?_setCell_other w ⟨R0,1,none⟩ ⟨R0,0,none⟩ _ (by simp)).trans h.d
 have c3 : W1.cell? ⟨R0,3,none⟩ = some .nilIface := by
  simp only [World.cell?,hb1.block R0 hR0]
  exact (World.cell?_setCell_other w ⟨R0,1,none⟩ ⟨R0,3,none⟩ _ (by simp)).trans h.r
 refine ⟨R,A,B,T,ca,cb,ct,rfl,doneW_but hb1,doneW_repl hr1 c0,?_⟩
 unfold doneW
 rw [cell_set_ne (by omega),cell_set_ne (by omega),World.cell?_drew,cell_set_ne (by omega)]
 exact World.cell?_setCell_same W1 ⟨R0,3,none⟩ _ c3
set_option maxRecDepth 100000 in
set_option maxHeartbeats 2000000 in
theorem replaceR_in (s : Bytes) (hs : s.length ≤ 2 ^ 30) (w : World) (R0 L cap : Nat) (h : NewAt w R0 L cap) (hne : L ≠ R0) :
 CallsIn Fence.wide 0 Tryz.prog 149 #[.pointer (some ⟨R0,0,none⟩),.string ⟨s.toArray⟩] w fun e w' => e = .returned (.string ⟨(escQ s).toArray⟩) ∧ ButQ R0 w w' := by
 have hmf : ∀ (fn : Fn) (first cap : Array Value) (w : World),(Instr.makeFunc fn first cap).run Tryz.prog w = .ok (.func fn first cap) w := fun _ _ _ _ => rfl
 have hdo := do_in w R0 L cap h hne
 have hme : ∀ (R : Nat) (w : World), (method 417 231 (.pointer (some ⟨R, 0, none⟩)) "Replace").run Tryz.prog w = .ok (300, .pointer (some ⟨R, 0, none⟩)) w := fun _ _ => by kernel_rfl
 gi_enter Tryz.func149,Tryz.ntmps149
 gi_wp2_with (first
  | (gi_at_call 167; refine hdo.mono ?_; rintro e w1 ⟨R,A,B,T,ca,cb,ct,rfl,hb1,hr1,hc1⟩)
  | (gi_at_call 300; refine (replace_in s hs w1 R A B T ca cb ct hr1).mono ?_; rintro e w2 ⟨rfl,hb2⟩))
 go_ret
 exact ⟨rfl,hb1.trans ⟨hb2.os,hb2.tape,hb2.output,hb2.size,fun k hk _ => hb2.block k hk⟩⟩
theorem new_at (w : World) (a : Obj) (z : Array Value) (cap : Nat) :
 NewAt (((w.alloc a).alloc (.cells (#[.string ⟨#[92]⟩,.string ⟨#[92,92]⟩,.string ⟨#[34]⟩,.string ⟨#[92,34]⟩] ++ z) 9)).alloc (.cells #[.int .u32 0,.int .i32 0,.int .u32 0,.nilIface,.slice (some ⟨w.heap.size + 1,0,none⟩) 4 cap] 155)).drew (w.heap.size + 1 + 1) (w.heap.size + 1) cap := by
 have h2 : (((w.alloc a).alloc (.cells (#[.string ⟨#[92]⟩,.string ⟨#[92,92]⟩,.string ⟨#[34]⟩,.string ⟨#[92,34]⟩] ++ z) 9)).alloc (.cells #[.int .u32 0,.int .i32 0,.int .u32 0,.nilIface,.slice (some ⟨w.heap.size + 1,0,none⟩) 4 cap] 155)).heap[w.heap.size + 1 + 1]? = some (.cells #[.int .u32 0,.int .i32 0,.int .u32 0,.nilIface,.slice (some ⟨w.heap.size + 1,0,none⟩) 4 cap] 155) := by
  rw [alloc_heap,if_pos (by rw [World.size_alloc,World.size_alloc])]
 have h1 : (((w.alloc a).alloc (.cells (#[.string ⟨#[92]⟩,.string ⟨#[92,92]⟩,.string ⟨#[34]⟩,.string ⟨#[92,34]⟩] ++ z) 9)).alloc (.cells #[.int .u32 0,.int .i32 0,.int .u32 0,.nilIface,.slice (some ⟨w.heap.size + 1,0,none⟩) 4 cap] 155)).heap[w.heap.size + 1]? = some (.cells (#[.string ⟨#[92]⟩,.string ⟨#[92,92]⟩,.string ⟨#[34]⟩,.string ⟨#[92,34]⟩] ++ z) 9) := by
  rw [alloc_heap,if_neg (by rw [World.size_alloc,World.size_alloc]; omega),alloc_heap,if_pos (by rw [World.size_alloc])]
 refine ⟨?_,?_,?_,?_,fun k => ?_,?_,?_,?_,?_⟩
 ·rw [World.cell?_drew]; simp only [World.cell?,h2]; rfl
 ·rw [World.cell?_drew]; simp only [World.cell?,h2]; rfl
 ·rw [World.cell?_drew]; simp only [World.cell?,h2]; rfl
 ·rw [World.cell?_drew]; simp only [World.cell?,h2]; rfl
 ·have hd : ∀ (W : World) (a : Addr),W.drew.frozen? a = W.frozen? a := fun _ _ => rfl
  rw [hd]
  simp only [World.frozen?,h2]
  simp
 all_goals
  rw [World.cell?_drew]
  simp only [World.cell?,h1]
  simp only [Option.isSome_none,Bool.false_eq_true,if_false]
  rw [Array.getElem?_append_left (by simp)]
  rfl
set_option maxRecDepth 100000 in
set_option maxHeartbeats 2000000 in
theorem quote_in (s : Bytes) (hs : s.length ≤ 2 ^ 30) (w : World) :
 CallsIn Fence.wide 0 Tryz.prog 106 #[.string ⟨s.toArray⟩] w fun e w' => e = .returned (.string ⟨(quoteQ s).toArray⟩) ∧ RowKit.Below w.heap.size w w' := by
 have hq : (escQ s).length ≤ 2 ^ 32 := by
  have h1 := escQ_len s
  have h2 : cntS s ≤ s.length := List.length_filter_le _ _
  omega
 have hn0 : ¬ 281474976710656 < Builtin.nextslicecap 4 0 * Tryz.t9.bytes := by
  have : Builtin.nextslicecap 4 0 * Tryz.t9.bytes = 64 := by kernel_rfl
  omega
 have hn1 : ¬ 9223372036854775807 < 1 + List.length (escQ s) := by omega
 have hn2 : ¬ 9223372036854775807 < 1 + List.length (escQ s) + 1 := by omega
 gi_enter Tryz.func106,Tryz.ntmps106
 gi_wp2_with (first
  | (gi_at_call 149; refine (replaceR_in s hs _ (w.heap.size + 1 + 1) (w.heap.size + 1) _ (new_at w _ _ _) (by omega)).mono ?_; rintro e w2 ⟨rfl,hb2⟩)
  | (gi_at_call 148; gi_in))
 go_ret
 refine ⟨?_,hb2.os,hb2.tape,hb2.output,?_,fun k hk => ?_⟩
 ·have : (ByteArray.mk #[34] ++ ByteArray.mk (escQ s).toArray ++ ByteArray.mk #[34]) = ByteArray.mk (quoteQ s).toArray := by
   unfold quoteQ
   apply ByteArray.ext
   simp
  rw [← this]
  rfl
 ·have := hb2.size
  simp at this
  omega
 ·rw [hb2.block k (by simp; omega) (by omega)]
  show (((w.alloc _).alloc _).alloc _).heap[k]? = _
  rw [alloc_heap,if_neg (by rw [World.size_alloc,World.size_alloc]; omega),alloc_heap,if_neg (by rw [World.size_alloc]; omega),alloc_heap,if_neg (by omega)]
theorem quote_ok (s : Bytes) (hs : s.length ≤ 2 ^ 30) : CallsTo C 106 [.str s] (fun r => r = .val (.str (quoteQ s))) := by
 refine ⟨⟨_,Tryz.func106,rfl,rfl⟩,fun imm w vs hJ hn hi hl hr => ?_⟩
 match vs,hl with
 | [v],_ =>
 obtain rfl := rep_strQ (hr 0 v _ rfl rfl)
 refine (callsIn_wide (n := 0)).1 ((quote_in s hs w).mono ?_)
 rintro e w' ⟨rfl,hb⟩
 exact ⟨_,_,rfl,rfl,.str _,hb⟩
end Go.Proofs

end
