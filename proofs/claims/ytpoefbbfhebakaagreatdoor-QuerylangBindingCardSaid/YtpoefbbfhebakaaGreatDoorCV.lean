/- Several texts in one: The language of queries: the contract of the reader of whole texts (defer and recover), in the kit's own manner and what follows. No condition. -/
import Derived.RangeFuncBound
import Derived.WalkKit
import Derived.OwnWalkIn
import Derived.TacticsInMore
import Derived.RegionIn
import Derived.LoopNIn
import Derived.RecoverIn
import Derived.Laws.Pointers
import Derived.Test.YtpoefbbfhebakaaGreatDoorCP
import Derived.Test.YtpoefbbfhebakaaGreatDoorC9
import Derived.Test.YtpoefbbfhebakaaGreatDoorCN
set_option linter.unusedVariables false
set_option linter.unusedSimpArgs false

section
namespace Go.Proofs
open Go.RowKit Go.Shelf Qv
attribute [local go_sem] Oper.semAt_some
theorem catch_idleQ (p2 p3 p4 : Addr) (w : World) :
 CallsDIn Fence.wide 0 Tryz.prog 115 #[.pointer (some p2),.pointer (some p3),.pointer (some p4)] .returning w fun e u' w' => e = .returned (.tuple #[]) ∧ u' = .returning ∧ w' = w := by
 refine callsDIn_of_wpSIn Tryz.func115 rfl trivial fun c₀ cs hu => ?_
 have hn : Tryz.f115.ntmps = 19 := rfl
 apply wpSIn_seq
 apply wpSIn_region
 simp [wpOpsSIn,go_sem,recoverD,hu,hn,Exit.thenS]
 apply wpSIn_seq
 apply wpSIn_region
 simp [wpOpsSIn,go_sem,Exit.thenS]
 refine wpSIn_cond (t := false) (by simp [Act.eval,Array.replicate]) ?_
 simp only [Bool.false_eq_true,if_false]
 refine wpSIn_of_wpIn rfl (wpIn_skip ?_)
 have hr : Tryz.f115.results = #[] := rfl
 cases c₀
 simp_all [bodyPostS,results,go_sem]
def zeroed (w : World) (b : Nat) (i : Int) : World :=
 (((((w.setCell ⟨b,0,none⟩ (.int .i64 0)).setCell ⟨b,1,none⟩ (.string ⟨#[]⟩)).setCell ⟨b,2,none⟩ (.int .i64 0)).setCell ⟨b,3,none⟩ (.slice none 0 0)).setCell ⟨b + 1,0,none⟩ (.int .i64 i)).setCell ⟨b + 2,0,none⟩ (.bool false)
set_option maxRecDepth 4000 in
theorem catch_panickingQ (b : Nat) (i : Int) (older : List PanicEntry) (w : World) (hc0 : (w.cell? ⟨b,0,none⟩).isSome = true) (hc1 : (w.cell? ⟨b,1,none⟩).isSome = true) (hc2 : (w.cell? ⟨b,2,none⟩).isSome = true) (hc3 : (w.cell? ⟨b,3,none⟩).isSome = true) (hc4 : (w.cell? ⟨b + 1,0,none⟩).isSome = true) (hc5 : (w.cell? ⟨b + 2,0,none⟩).isSome = true)
 (hz : ∀ d o,d ≤ 2 → w.frozen? ⟨b + d,o,none⟩ = false) :
 CallsDIn Fence.wide 0 Tryz.prog 115 #[.pointer (some ⟨b,0,none⟩),.pointer (some ⟨b + 1,0,none⟩),.pointer (some ⟨b + 2,0,none⟩)] (.panicking ({ v := .iface 99 (.int .i64 i),recovered := false } :: older)) w fun e u' w' =>
  e = .returned (.tuple #[]) ∧ u' = .panicking ({ v := .iface 99 (.int .i64 i),recovered := true } :: older) ∧ w' = zeroed w b i := by
 obtain ⟨x0,hc0⟩ := Option.isSome_iff_exists.1 hc0
 obtain ⟨x1,hc1⟩ := Option.isSome_iff_exists.1 hc1
 obtain ⟨x2,hc2⟩ := Option.isSome_iff_exists.1 hc2
 obtain ⟨x3,hc3⟩ := Option.isSome_iff_exists.1 hc3
 obtain ⟨x4,hc4⟩ := Option.isSome_iff_exists.1 hc4
 obtain ⟨x5,hc5⟩ := Option.isSome_iff_exists.1 hc5
 have hz0 : ∀ o,w.frozen? ⟨b,o,none⟩ = false := fun o => hz 0 o (by omega)
 have hz1 : ∀ o,w.frozen? ⟨b + 1,o,none⟩ = false := fun o => hz 1 o (by omega)
 have hz2 : ∀ o,w.frozen? ⟨b + 2,o,none⟩ = false := fun o => hz 2 o (by omega)
 refine callsDIn_of_wpSIn Tryz.func115 rfl trivial fun c₀ cs hu => ?_
 have hn : Tryz.f115.ntmps = 19 := rfl
 apply wpSIn_seq
 apply wpSIn_region
 simp [wpOpsSIn,go_sem,recoverD,hu,hn,Exit.thenS]
 apply wpSIn_seq
 apply wpSIn_region
 simp [wpOpsSIn,go_sem,Exit.thenS]
 refine wpSIn_cond (t := true) (by simp [Act.eval,Array.replicate]) ?_
 simp only [if_true]
 apply wpSIn_seq
 apply wpSIn_region
 have hta : (Instr.typeAssert (.iface 99 (.int .i64 i)) 20 99 true).run Tryz.prog w = .ok (.tuple #[.int .i64 i,.bool true]) w := by kernel_rfl
 simp [wpOpsSIn,go_sem,Exit.thenS,hta]
 apply wpSIn_seq
 apply wpSIn_seq
 apply wpSIn_region
 simp [wpOpsSIn,go_sem,Exit.thenS]
 refine wpSIn_cond (t := false) (by simp [Act.eval,Array.replicate]) ?_
 simp only [Bool.false_eq_true,if_false]
 refine wpSIn_of_wpIn rfl (wpIn_skip ?_)
 simp only [Exit.thenS]
 apply wpSIn_region
 have hr : Tryz.f115.results = #[] := rfl
 simp [wpOpsSIn,go_sem,Exit.thenS,hc0,hc1,hc2,hc3,hc4,hc5,hz0,hz1,hz2,bodyPostS,results,hr,zeroed]
structure ButQ (B : Nat) (W W' : World) : Prop where
 os : W'.os = W.os
 tape : W'.tape = W.tape
 output : W'.output = W.output
 size : W.heap.size ≤ W'.heap.size
 block : ∀ k,k < W.heap.size → k ≠ B → W'.heap[k]? = W.heap[k]?
theorem ButQ.trans {B : Nat} {X Y Z : World} (h : ButQ B X Y) (g : ButQ B Y Z) : ButQ B X Z :=
 ⟨g.os.trans h.os,g.tape.trans h.tape,g.output.trans h.output,Nat.le_trans h.size g.size,fun k hk hb => (g.block k (Nat.lt_of_lt_of_le hk h.size) hb).trans (h.block k hk hb)⟩
def pvs (s : Bytes) (i : Nat) (k : Int) (t : Bytes) (n : Int) (a : Nat) : Array Value := #[.string ⟨s.toArray⟩,.int .i64 i,.int .i64 k,.string ⟨t.toArray⟩,.int .i64 n,.int .i64 a]
theorem rep_intQ {imm : Nat → Nat → Prop} {w : World} {v : Value} {k : IntKind} {n : Int} (h : Rep imm w v (.int k n)) : v = .int k n := by cases h; rfl
theorem rep_strQ {imm : Nat → Nat → Prop} {w : World} {v : Value} {s : Bytes} (h : Rep imm w v (.str s)) : v = .string ⟨s.toArray⟩ := by cases h; rfl
theorem objIn {f : FuncId} {s : Bytes} {i : Nat} {k : Int} {t : Bytes} {n : Int} {a : Nat} {R : AV → List AV → Prop} {X : Value → Prop} (h : ObjToP C f (pcells s i k t n a) [] R X) {m : Nat} {imm : Nat → Nat → Prop} {w : World} {b : Nat}
 (hJ : C.J w ∧ GlobOK imm w) (hn : C.nglob ≤ b) (hi : ∀ b o,imm b o → b < w.heap.size) (hnb : ∀ o,¬ imm b o) (hp : w.heap[b]? = some (.cells (pvs s i k t n a) 105)) :
 CallsIn Fence.wide m Tryz.prog f #[.pointer (some ⟨b,0,none⟩)] w fun e w' => ButQ b w w' ∧
  ((∃ v r ys,e = .returned v ∧ R r ys ∧ Rep (immOr imm w.heap.size) w' v r ∧ ∀ s' i' k' t' n' a',ys = pcells s' i' k' t' n' a' → w'.heap[b]? = some (.cells (pvs s' i' k' t' n' a') 105)) ∨
   ∃ v,e = .panicked [{ v := v,recovered := false }] ∧ X v) := by
 have hb := (Array.getElem?_eq_some_iff.1 hp).1
 have hcell : ∀ j,w.cell? ⟨b,j,none⟩ = (pvs s i k t n a)[j]? := fun j => by simp [World.cell?,hp]
 refine (callsIn_wide.2 (h.2 imm w b [] hJ (by omega) hi hn hb (fun j => ⟨hnb j,by simp [World.frozen?,hp]⟩) ?_ rfl (fun j v x h1 => by cases j <;> cases h1))).mono ?_
 ·intro j x hx
  rw [hcell]
  match j,hx with
  | 0,hx => cases hx; exact ⟨_,rfl,.str _⟩
  | 1,hx => cases hx; exact ⟨_,rfl,.int _ _⟩
  | 2,hx => cases hx; exact ⟨_,rfl,.int _ _⟩
  | 3,hx => cases hx; exact ⟨_,rfl,.str _⟩
  | 4,hx => cases hx; exact ⟨_,rfl,.int _ _⟩
  | 5,hx => cases hx; exact ⟨_,rfl,.int _ _⟩
  | j + 6,hx => cases hx
 ·rintro e w' ⟨ys,hlen,hys,h1,h2,h3,h4,h5,h6,h7⟩
  refine ⟨⟨h1,h2,h3,h4,h5⟩,?_⟩
  rcases h7 with ⟨v,r,rfl,hR,hv⟩ | ⟨v,rfl,hX⟩
  ·refine .inl ⟨v,r,ys,rfl,hR,hv,?_⟩
   rintro s' i' k' t' n' a' rfl
   obtain ⟨cs',hc,hsz⟩ := h6 _ _ _ hp
   have e0 := hys 0 _ rfl
   have e1 := hys 1 _ rfl
   have e2 := hys 2 _ rfl
   have e3 := hys 3 _ rfl
   have e4 := hys 4 _ rfl
   have e5 := hys 5 _ rfl
   have hcell' : ∀ j,w'.cell? ⟨b,j,none⟩ = cs'[j]? := fun j => by simp [World.cell?,hc]
   simp only [hcell'] at e0 e1 e2 e3 e4 e5
   obtain ⟨c0,g0,r0⟩ := e0
   obtain ⟨c1,g1,r1⟩ := e1
   obtain ⟨c2,g2,r2⟩ := e2
   obtain ⟨c3,g3,r3⟩ := e3
   obtain ⟨c4,g4,r4⟩ := e4
   obtain ⟨c5,g5,r5⟩ := e5
   have hsz : cs'.size = 6 := hsz
   have : cs' = pvs s' i' k' t' n' a' := by
    apply Array.ext_getElem?
    intro j
    match j with
    | 0 => rw [g0,rep_strQ r0]; rfl
    | 1 => rw [g1,rep_intQ r1]; rfl
    | 2 => rw [g2,rep_intQ r2]; rfl
    | 3 => rw [g3,rep_strQ r3]; rfl
    | 4 => rw [g4,rep_intQ r4]; rfl
    | 5 => rw [g5,rep_intQ r5]; rfl
    | j + 6 => rw [Array.getElem?_eq_none (by omega),Array.getElem?_eq_none (by simp [pvs])]
   rw [hc,this]
  ·exact .inr ⟨v,rfl,hX⟩
def zeroQ : Qy := .mk 0 [] 0 []
def wholeV (s : Bytes) : PR (Bytes × Bytes) → AV
 | .ok q _ => .tup [.agg (encQy q),.int .i64 0,.bool true]
 | .err a => .tup [.agg (encQy zeroQ),.int .i64 (offT s a),.bool false]
abbrev wholeW (s : Bytes) (w : World) : World :=
 (((w.alloc (.cells #[.int .i64 0,.string ⟨#[]⟩,.int .i64 0,.slice none 0 0] 24)).alloc (.cells #[.int .i64 0] 3)).alloc (.cells #[.bool false] 4)).alloc (.cells #[.string ⟨s.toArray⟩,.int .i64 0,.int .i64 0,.string ⟨#[]⟩,.int .i64 0,.int .i64 0] 105)
theorem GlobOK.keep {imm : Nat → Nat → Prop} {w w' : World} (h : GlobOK imm w) (hi : ∀ b o,imm b o → b < w.heap.size) (hb : ∀ k,k < w.heap.size → w'.heap[k]? = w.heap[k]?) : GlobOK imm w' :=
 fun g xs hg => (h g xs hg).keep (fun _ _ h => h) (fun b o c hbo hc => by rw [← hc]; simp only [World.cell?,hb b (hi b o hbo)]) (fun b es k hbo hm => by rw [hb b (hi b 0 hbo)]; exact hm)
theorem alloc_heap (w : World) (o : Obj) (k : Nat) : (w.alloc o).heap[k]? = if k = w.heap.size then some o else w.heap[k]? := by
 show (w.heap.push o)[k]? = _
 rw [Array.getElem?_push]
theorem heap_wholeW (s : Bytes) (w : World) : (wholeW s w).heap.size = w.heap.size + 4 ∧ (∀ k,k < w.heap.size → (wholeW s w).heap[k]? = w.heap[k]?) ∧
 (wholeW s w).heap[w.heap.size]? = some (.cells #[.int .i64 0,.string ⟨#[]⟩,.int .i64 0,.slice none 0 0] 24) ∧ (wholeW s w).heap[w.heap.size + 1]? = some (.cells #[.int .i64 0] 3) ∧
 (wholeW s w).heap[w.heap.size + 2]? = some (.cells #[.bool false] 4) ∧ (wholeW s w).heap[w.heap.size + 3]? = some (.cells (pvs s 0 0 [] 0 0) 105) := by
 have hz : ∀ (w : World) (o : Obj),(w.alloc o).heap.size = w.heap.size + 1 := fun w o => World.size_alloc w o
 refine ⟨by simp only [wholeW,hz],fun k hk => ?_,?_,?_,?_,?_⟩
 ·simp only [wholeW,alloc_heap,hz]
  rw [if_neg (by omega),if_neg (by omega),if_neg (by omega),if_neg (by omega)]
 ·simp only [wholeW,alloc_heap,hz]
  rw [if_neg (by omega),if_neg (by omega),if_neg (by omega),if_pos trivial]
 ·simp only [wholeW,alloc_heap,hz]
  rw [if_neg (by omega),if_neg (by omega),if_pos trivial]
 ·simp only [wholeW,alloc_heap,hz]
  rw [if_neg (by omega),if_pos trivial]
 ·simp only [wholeW,alloc_heap,hz]
  rw [if_pos trivial]
  rfl
theorem whole_results {W : World} {B : Nat} {c0 c1 c2 c3 y z : Value} (t0 t1 : Value) (ts : List Value) (h0 : W.cell? ⟨B,0,none⟩ = some c0) (h1 : W.cell? ⟨B,1,none⟩ = some c1) (h2 : W.cell? ⟨B,2,none⟩ = some c2) (h3 : W.cell? ⟨B,3,none⟩ = some c3)
 (h4 : W.cell? ⟨B + 1,0,none⟩ = some y) (h5 : W.cell? ⟨B + 2,0,none⟩ = some z) :
 (results Tryz.f62 (t0 :: t1 :: .pointer (some ⟨B,0,none⟩) :: .pointer (some ⟨B + 1,0,none⟩) :: .pointer (some ⟨B + 2,0,none⟩) :: ts).toArray).run Tryz.prog W = .ok (.tuple #[.agg #[c0,c1,c2,c3],y,z]) W := by
 have hr : Tryz.f62.results = #[.cell 2 24,.cell 3 3,.cell 4 4] := rfl
 simp [results,hr,go_sem,h0,h1,h2,h3,h4,h5]
def wholeEnd (imm : Nat → Nat → Prop) (w : World) (s : Bytes) (res : PR (Bytes × Bytes)) (e : Ending) (w' : World) : Prop :=
 ∃ v r,e = .returned v ∧ r = Ret.val (wholeV s res) ∧ RetOK imm w.heap.size w' v r ∧ RowKit.Below w.heap.size w w'
theorem leave_bad {imm : Nat → Nat → Prop} {w W : World} {s : Bytes} {i : Nat} {res : PR (Bytes × Bytes)} (t0 t1 : Value) (ts : List Value) (hres : ∃ a,res = .err a ∧ i = offT s a)
 (hc0 : (W.cell? ⟨w.heap.size,0,none⟩).isSome = true) (hc1 : (W.cell? ⟨w.heap.size,1,none⟩).isSome = true) (hc2 : (W.cell? ⟨w.heap.size,2,none⟩).isSome = true) (hc3 : (W.cell? ⟨w.heap.size,3,none⟩).isSome = true) (hc4 : (W.cell? ⟨w.heap.size + 1,0,none⟩).isSome = true) (hc5 : (W.cell? ⟨w.heap.size + 2,0,none⟩).isSome = true)
 (hz : ∀ d o,d ≤ 2 → W.frozen? ⟨w.heap.size + d,o,none⟩ = false) (hb : RowKit.Below w.heap.size w W) :
 LeavesIn Fence.wide 0 Tryz.prog Tryz.f62 (t0 :: t1 :: .pointer (some ⟨w.heap.size,0,none⟩) :: .pointer (some ⟨w.heap.size + 1,0,none⟩) :: .pointer (some ⟨w.heap.size + 2,0,none⟩) :: ts).toArray (wholeEnd imm w s res)
  [{ target := .fn (.func 115) #[.pointer (some ⟨w.heap.size,0,none⟩),.pointer (some ⟨w.heap.size + 1,0,none⟩),.pointer (some ⟨w.heap.size + 2,0,none⟩)],args := #[] }] (.panicking [{ v := pval i,recovered := false }]) W := by
 refine leavesIn_cons (f := 115) (args := #[.pointer (some ⟨w.heap.size,0,none⟩),.pointer (some ⟨w.heap.size + 1,0,none⟩),.pointer (some ⟨w.heap.size + 2,0,none⟩)]) (by simp) (fun h => by cases h) (by simp [go_sem]) (fun _ _ => trivial) ?_
 refine (catch_panickingQ w.heap.size i [] W hc0 hc1 hc2 hc3 hc4 hc5 hz).mono ?_
 rintro e u' w'' ⟨rfl,rfl,rfl⟩
 obtain ⟨x0,hc0⟩ := Option.isSome_iff_exists.1 hc0
 obtain ⟨x1,hc1⟩ := Option.isSome_iff_exists.1 hc1
 obtain ⟨x2,hc2⟩ := Option.isSome_iff_exists.1 hc2
 obtain ⟨x3,hc3⟩ := Option.isSome_iff_exists.1 hc3
 obtain ⟨x4,hc4⟩ := Option.isSome_iff_exists.1 hc4
 obtain ⟨x5,hc5⟩ := Option.isSome_iff_exists.1 hc5
 obtain ⟨a,rfl,rfl⟩ := hres
 have hset : settle (.panicking [{ v := .iface 99 (.int .i64 ((offT s a : Nat) : Int)),recovered := true }]) = .returning := by simp [settle]
 show LeavesIn Fence.wide 0 Tryz.prog Tryz.f62 _ _ [] (settle _) _
 rw [hset]
 refine ⟨_,whole_results (c0 := .int .i64 0) (c1 := .string ⟨#[]⟩) (c2 := .int .i64 0) (c3 := .slice none 0 0) (y := .int .i64 ((offT s a : Nat) : Int)) (z := .bool false) t0 t1 ts ?_ ?_ ?_ ?_ ?_ ?_,?_⟩
 ·simp [zeroed,go_sem,hc0,hc1,hc2,hc3,hc4,hc5]
 ·simp [zeroed,go_sem,hc0,hc1,hc2,hc3,hc4,hc5]
 ·simp [zeroed,go_sem,hc0,hc1,hc2,hc3,hc4,hc5]
 ·simp [zeroed,go_sem,hc0,hc1,hc2,hc3,hc4,hc5]
 ·simp [zeroed,go_sem,hc0,hc1,hc2,hc3,hc4,hc5]
 ·simp [zeroed,go_sem,hc0,hc1,hc2,hc3,hc4,hc5]
 refine ⟨_,_,rfl,rfl,?_,?_⟩
 ·refine .tup [.agg #[.int .i64 0,.string ⟨#[]⟩,.int .i64 0,.slice none 0 0],.int .i64 ((offT s a : Nat) : Int),.bool false] _ rfl fun j c x h1 h2 => ?_
  match j,h1,h2 with
  | 0,h1,h2 =>
    cases h1; cases h2
    refine .agg [.int .i64 0,.string ⟨#[]⟩,.int .i64 0,.slice none 0 0] _ rfl (fun x hx => ?_) fun j c x h1 h2 => ?_
    ·simp [encQy,encQyL,zeroQ] at hx
     rcases hx with rfl | rfl | rfl | rfl <;> rfl
    ·match j,h1,h2 with
     | 0,h1,h2 => cases h1; cases h2; exact .int _ _
     | 1,h1,h2 => cases h1; cases h2; exact .str []
     | 2,h1,h2 => cases h1; cases h2; exact .int _ _
     | 3,h1,h2 => cases h1; cases h2; exact .sl0 _ _
     | j + 4,h1,h2 => cases h1
  | 1,h1,h2 => cases h1; cases h2; exact .int _ _
  | 2,h1,h2 => cases h1; cases h2; exact .bool _
  | j + 3,h1,h2 => cases h1
 ·exact (((((hb.setCell (Nat.le_refl _) _).setCell (Nat.le_refl _) _).setCell (Nat.le_refl _) _).setCell (Nat.le_refl _) _).setCell (Nat.le_succ _) _).setCell (Nat.le_add_right _ _) _
theorem leave_good {imm : Nat → Nat → Prop} {w W : World} {s : Bytes} {q : Qy} {l : Toks} {c0 c1 c2 c3 : Value} (t0 t1 : Value) (ts : List Value)
 (hc0 : W.cell? ⟨w.heap.size,0,none⟩ = some c0) (hc1 : W.cell? ⟨w.heap.size,1,none⟩ = some c1) (hc2 : W.cell? ⟨w.heap.size,2,none⟩ = some c2) (hc3 : W.cell? ⟨w.heap.size,3,none⟩ = some c3) (hc4 : W.cell? ⟨w.heap.size + 1,0,none⟩ = some (.int .i64 0)) (hc5 : W.cell? ⟨w.heap.size + 2,0,none⟩ = some (.bool true))
 (hrep : Rep (immOr imm w.heap.size) W (.agg #[c0,c1,c2,c3]) (.agg (encQy q))) (hb : RowKit.Below w.heap.size w W) :
 LeavesIn Fence.wide 0 Tryz.prog Tryz.f62 (t0 :: t1 :: .pointer (some ⟨w.heap.size,0,none⟩) :: .pointer (some ⟨w.heap.size + 1,0,none⟩) :: .pointer (some ⟨w.heap.size + 2,0,none⟩) :: ts).toArray (wholeEnd imm w s (.ok q l))
  [{ target := .fn (.func 115) #[.pointer (some ⟨w.heap.size,0,none⟩),.pointer (some ⟨w.heap.size + 1,0,none⟩),.pointer (some ⟨w.heap.size + 2,0,none⟩)],args := #[] }] .returning W := by
 refine leavesIn_cons (f := 115) (args := #[.pointer (some ⟨w.heap.size,0,none⟩),.pointer (some ⟨w.heap.size + 1,0,none⟩),.pointer (some ⟨w.heap.size + 2,0,none⟩)]) (by simp) (fun h => by cases h) (by simp [go_sem]) (fun _ _ => trivial) ?_
 refine (catch_idleQ _ _ _ W).mono ?_
 rintro e u' w'' ⟨rfl,rfl,rfl⟩
 show LeavesIn Fence.wide 0 Tryz.prog Tryz.f62 _ _ [] (settle _) _
 have hset : settle .returning = .returning := by simp [settle]
 rw [hset]
 refine ⟨_,whole_results t0 t1 ts hc0 hc1 hc2 hc3 hc4 hc5,?_⟩
 refine ⟨_,_,rfl,rfl,?_,hb⟩
 refine .tup [.agg #[c0,c1,c2,c3],.int .i64 0,.bool true] _ rfl fun j c x h1 h2 => ?_
 match j,h1,h2 with
 | 0,h1,h2 => cases h1; cases h2; exact hrep
 | 1,h1,h2 => cases h1; cases h2; exact .int _ _
 | 2,h1,h2 => cases h1; cases h2; exact .bool _
 | j + 3,h1,h2 => cases h1
theorem rep_four {imm : Nat → Nat → Prop} {w : World} {v : Value} {q : Qy} (h : Rep imm w v (.agg (encQy q))) : ∃ (k : Int) (t : Bytes) (n : Int) (p : Option Addr) (len cap : Nat),v = .agg #[.int .i64 k,.string ⟨t.toArray⟩,.int .i64 n,.slice p len cap] := by
 obtain ⟨k,t,n,l⟩ := q
 have he : encQy (.mk k t n l) = [.int .i64 k,.str t,.int .i64 n,.sl (encQyL l)] := rfl
 rw [he] at h
 generalize encQyL l = rows at h
 cases h with
 | agg cs _ hlen hone hrep =>
   match cs,hlen with
   | [c0,c1,c2,c3],_ =>
     obtain rfl := rep_intQ (hrep 0 _ _ rfl rfl)
     obtain rfl := rep_strQ (hrep 1 _ _ rfl rfl)
     obtain rfl := rep_intQ (hrep 2 _ _ rfl rfl)
     have h3 := hrep 3 _ _ rfl rfl
     cases h3 with
     | sl0 a c => exact ⟨_,_,_,_,_,_,rfl⟩
     | sl b off c esz xs cell _ _ _ _ => exact ⟨_,_,_,_,_,_,rfl⟩
theorem setCells10 {w2 : World} {B : Nat} (b : Nat) (h0 : b ≠ B) (h1 : b ≠ B + 1) (h2 : b ≠ B + 2) {v0 v1 v2 v3 v4 v5 v6 v7 v8 v9 : Value} :
 ((((((((((w2.setCell ⟨B,0,none⟩ v0).setCell ⟨B,1,none⟩ v1).setCell ⟨B,2,none⟩ v2).setCell ⟨B,3,none⟩ v3).setCell ⟨B,0,none⟩ v4).setCell ⟨B,1,none⟩ v5).setCell ⟨B,2,none⟩ v6).setCell ⟨B,3,none⟩ v7).setCell ⟨B + 1,0,none⟩ v8).setCell ⟨B + 1 + 1,0,none⟩ v9).heap[b]? = w2.heap[b]? := by
 rw [RowKit.Below.heap_setCell _ _ _ _ h2,RowKit.Below.heap_setCell _ _ _ _ h1,RowKit.Below.heap_setCell _ _ _ _ h0,RowKit.Below.heap_setCell _ _ _ _ h0,RowKit.Below.heap_setCell _ _ _ _ h0,RowKit.Below.heap_setCell _ _ _ _ h0,RowKit.Below.heap_setCell _ _ _ _ h0,RowKit.Below.heap_setCell _ _ _ _ h0,RowKit.Below.heap_setCell _ _ _ _ h0,RowKit.Below.heap_setCell _ _ _ _ h0]
theorem cells10 {W : World} {B : Nat} {x0 x1 x2 x3 x4 x5 : Value} (h0 : W.cell? ⟨B,0,none⟩ = some x0) (h1 : W.cell? ⟨B,1,none⟩ = some x1) (h2 : W.cell? ⟨B,2,none⟩ = some x2) (h3 : W.cell? ⟨B,3,none⟩ = some x3) (h4 : W.cell? ⟨B + 1,0,none⟩ = some x4) (h5 : W.cell? ⟨B + 2,0,none⟩ = some x5) (v0 v1 v2 v3 v8 v9 : Value) (W' : World)
 (hW : W' = (((((((((W.setCell ⟨B,0,none⟩ v0).setCell ⟨B,1,none⟩ v1).setCell ⟨B,2,none⟩ v2).setCell ⟨B,3,none⟩ v3).setCell ⟨B,0,none⟩ v0).setCell ⟨B,1,none⟩ v1).setCell ⟨B,2,none⟩ v2).setCell ⟨B,3,none⟩ v3).setCell ⟨B + 1,0,none⟩ v8).setCell ⟨B + 1 + 1,0,none⟩ v9) :
 W'.cell? ⟨B,0,none⟩ = some v0 ∧ W'.cell? ⟨B,1,none⟩ = some v1 ∧ W'.cell? ⟨B,2,none⟩ = some v2 ∧ W'.cell? ⟨B,3,none⟩ = some v3 ∧ W'.cell? ⟨B + 1,0,none⟩ = some v8 ∧ W'.cell? ⟨B + 2,0,none⟩ = some v9 := by
 have a0 : ((((W.setCell ⟨B,0,none⟩ v0).setCell ⟨B,1,none⟩ v1).setCell ⟨B,2,none⟩ v2).setCell ⟨B,3,none⟩ v3).cell? ⟨B,0,none⟩ = some v0 := by simp [go_sem,h0,h1,h2,h3]
 have a1 : ((((W.setCell ⟨B,0,none⟩ v0).setCell ⟨B,1,none⟩ v1).setCell ⟨B,2,none⟩ v2).setCell ⟨B,3,none⟩ v3).cell? ⟨B,1,none⟩ = some v1 := by simp [go_sem,h0,h1,h2,h3]
 have a2 : ((((W.setCell ⟨B,0,none⟩ v0).setCell ⟨B,1,none⟩ v1).setCell ⟨B,2,none⟩ v2).setCell ⟨B,3,none⟩ v3).cell? ⟨B,2,none⟩ = some v2 := by simp [go_sem,h0,h1,h2,h3]
 have a3 : ((((W.setCell ⟨B,0,none⟩ v0).setCell ⟨B,1,none⟩ v1).setCell ⟨B,2,none⟩ v2).setCell ⟨B,3,none⟩ v3).cell? ⟨B,3,none⟩ = some v3 := by simp [go_sem,h0,h1,h2,h3]
 have a4 : ((((W.setCell ⟨B,0,none⟩ v0).setCell ⟨B,1,none⟩ v1).setCell ⟨B,2,none⟩ v2).setCell ⟨B,3,none⟩ v3).cell? ⟨B + 1,0,none⟩ = some x4 := by simp [go_sem,h0,h1,h2,h3,h4]
 have a5 : ((((W.setCell ⟨B,0,none⟩ v0).setCell ⟨B,1,none⟩ v1).setCell ⟨B,2,none⟩ v2).setCell ⟨B,3,none⟩ v3).cell? ⟨B + 2,0,none⟩ = some x5 := by simp [go_sem,h0,h1,h2,h3,h5]
 generalize (((W.setCell ⟨B,0,none⟩ v0).setCell ⟨B,1,none⟩ v1).setCell ⟨B,2,none⟩ v2).setCell ⟨B,3,none⟩ v3 = w4 at a0 a1 a2 a3 a4 a5 hW
 subst hW
 simp [go_sem,a0,a1,a2,a3,a4,a5]
theorem tokK_stop {t : Tk} (h : tokK t = 0) (hb : t.bad? = false) : t = .stop :=
 match t,h,hb with
 | .stop,_,_ => rfl
 | .bad,_,h => by cases h
 | .word _,h,_ => by cases h
 | .num _,h,_ => by cases h
 | .str _,h,_ => by cases h
 | .lp,h,_ => by cases h
 | .rp,h,_ => by cases h
theorem facts_of {w W : World} {x0 x1 x2 x3 x4 x5 : Value} (h0 : W.heap[w.heap.size]? = some (.cells #[x0,x1,x2,x3] 24)) (h1 : W.heap[w.heap.size + 1]? = some (.cells #[x4] 3)) (h2 : W.heap[w.heap.size + 2]? = some (.cells #[x5] 4)) :
 (W.cell? ⟨w.heap.size,0,none⟩ = some x0 ∧ W.cell? ⟨w.heap.size,1,none⟩ = some x1 ∧ W.cell? ⟨w.heap.size,2,none⟩ = some x2 ∧ W.cell? ⟨w.heap.size,3,none⟩ = some x3 ∧ W.cell? ⟨w.heap.size + 1,0,none⟩ = some x4 ∧ W.cell? ⟨w.heap.size + 2,0,none⟩ = some x5) ∧
 (∀ o,W.frozen? ⟨w.heap.size,o,none⟩ = false) ∧ (∀ o,W.frozen? ⟨w.heap.size + 1,o,none⟩ = false) ∧ ∀ o,W.frozen? ⟨w.heap.size + 2,o,none⟩ = false := by
 simp [World.cell?,World.frozen?,h0,h1,h2]
set_option maxRecDepth 100000 in
set_option maxHeartbeats 2000000 in
theorem whole_ok (s : Bytes) (hs : s.length ≤ 2 ^ 30) (res : PR (Bytes × Bytes)) (hres : allT (toks s) = some res) : CallsTo C 62 [.str s] (fun r => r = .val (wholeV s res)) := by
 refine ⟨⟨_,Tryz.func62,rfl,rfl⟩,fun imm w vs hJ hn hi hl hr => ?_⟩
 match vs,hl with
 | [v],_ =>
 obtain rfl := rep_strQ (hr 0 v _ rfl rfl)
 refine (callsIn_wide (n := 0)).1 ?_
 change CallsIn Fence.wide 0 Tryz.prog 62 _ w (wholeEnd imm w s res)
 refine callsIn_of_wp_defers Tryz.func62 rfl trivial ?_ rfl
 have hnt : Tryz.f62.ntmps = 27 := rfl
 simp only [hnt,List.size_toArray,List.length_cons,List.length_nil,Nat.reduceAdd,Nat.reduceSub,Array.replicate_succ,Array.replicate_zero,List.push_toArray,List.append_toArray,List.nil_append,List.cons_append]
 have hmf : ∀ (fn : Fn) (first cap : Array Value) (w : World),(Instr.makeFunc fn first cap).run Tryz.prog w = .ok (.func fn first cap) w := fun _ _ _ _ => rfl
 obtain ⟨z0,zk,zq,zi,zo,zp⟩ := heap_wholeW s w
 have hJ1 : C.J (wholeW s w) ∧ GlobOK imm (wholeW s w) := ⟨C.stable w _ (fun k hk => zk k (by omega)) hJ.1,GlobOK.keep hJ.2 hi zk⟩
 have hi1 : ∀ b o,imm b o → b < (wholeW s w).heap.size := fun b o h => by have := hi b o h; omega
 have hnb : ∀ o,¬ imm (w.heap.size + 3) o := fun o h => by have := hi _ _ h; omega
 have hb0 : RowKit.Below w.heap.size w (wholeW s w) := ⟨rfl,rfl,rfl,by omega,zk⟩
 have hc1 := objIn (m := 0) (advance_ok s 0 0 [] 0 0 hs (Nat.zero_le _)) hJ1 (b := w.heap.size + 3) (by omega) hi1 hnb zp
 rw [List.drop_zero] at hc1
 have f1 : ∀ w1,ButQ (w.heap.size + 3) (wholeW s w) w1 → RowKit.Below w.heap.size w w1 ∧ w1.heap[w.heap.size]? = some (.cells #[.int .i64 0,.string ⟨#[]⟩,.int .i64 0,.slice none 0 0] 24) ∧ w1.heap[w.heap.size + 1]? = some (.cells #[.int .i64 0] 3) ∧ w1.heap[w.heap.size + 2]? = some (.cells #[.bool false] 4) := fun w1 h =>
  ⟨hb0.trans ⟨h.os,h.tape,h.output,h.size,fun k hk => h.block k (by omega) (by omega)⟩,(h.block _ (by omega) (by omega)).trans zq,(h.block _ (by omega) (by omega)).trans zi,(h.block _ (by omega) (by omega)).trans zo⟩
 have bad : ∀ (w1 : World) (i : Nat) (t0 t1 : Value) (ts : List Value),ButQ (w.heap.size + 3) (wholeW s w) w1 → (∃ a,res = .err a ∧ i = offT s a) →
  LeavesIn Fence.wide 0 Tryz.prog Tryz.f62 (t0 :: t1 :: .pointer (some ⟨w.heap.size,0,none⟩) :: .pointer (some ⟨w.heap.size + 1,0,none⟩) :: .pointer (some ⟨w.heap.size + 2,0,none⟩) :: ts).toArray (wholeEnd imm w s res)
   [{ target := .fn (.func 115) #[.pointer (some ⟨w.heap.size,0,none⟩),.pointer (some ⟨w.heap.size + 1,0,none⟩),.pointer (some ⟨w.heap.size + 2,0,none⟩)],args := #[] }] (.panicking [{ v := pval i,recovered := false }]) w1 := by
  intro w1 i t0 t1 ts hb1 hr1
  obtain ⟨g0,g1,g2,g3⟩ := f1 w1 hb1
  obtain ⟨⟨e0,e1,e2,e3,e4,e5⟩,e6,e7,e8⟩ := facts_of g1 g2 g3
  refine leave_bad t0 t1 ts hr1 (by rw [e0]; rfl) (by rw [e1]; rfl) (by rw [e2]; rfl) (by rw [e3]; rfl) (by rw [e4]; rfl) (by rw [e5]; rfl) (fun d o hd => ?_) g0
  match d,hd with
  | 0,_ => exact e6 o
  | 1,_ => exact e7 o
  | 2,_ => exact e8 o
 have ht : toks s = headT s :: (if (lexU (unbl s)).1.isEnd = true then [] else toks (lexU (unbl s)).2) := toks_eq s
 generalize (if (lexU (unbl s)).1.isEnd = true then [] else toks (lexU (unbl s)).2) = tl at ht
 cases hbad : (headT s).1.bad? with
 | true =>
   gi_wp2_with (refine ⟨trivial,rfl,?_⟩; refine hc1.mono ?_; rintro e w1 ⟨hb1,h1⟩; replace h1 : e = .panicked [{ v := pval (s.length - (headT s).2.1.length),recovered := false }] := (by (rcases h1 with ⟨v,r,ys,-,⟨h2,-⟩,-⟩ | ⟨v,h1,-,rfl⟩); (rw [hbad] at h2; cases h2); exact h1); subst h1)
   refine bad w1 _ _ _ _ hb1 ⟨(headT s).2,?_,rfl⟩
   rw [ht] at hres
   generalize headT s = e at hbad hres
   obtain ⟨t,a⟩ := e
   cases t <;> first | exact (Option.some.inj hres).symm | cases hbad
 | false =>
   have hgl : GL s (toks s) := ⟨⟨0,Nat.zero_le _,by rw [List.drop_zero]⟩,_,_,ht,hbad⟩
   have hall : bindT (goT (3 * (toks s).length + 3) .disj (toks s)) (fun q l => match l with
    | (.stop,a) :: _ => some (.ok q [])
    | (_,a) :: _ => some (.err a)
    | [] => none) = some res := by
    have h := hres
    rw [allT,okT_good ⟨_,_,ht,hbad⟩] at h
    refine Eq.trans ?_ h
    congr 1
    funext q l
    match l with
    | [] => rfl
    | (t,a) :: l => cases t <;> rfl
   generalize 3 * (toks s).length + 3 = F at hall
   cases hr0 : goT F .disj (toks s) with
   | none => rw [hr0] at hall; cases hall
   | some r0 =>
   rw [hr0] at hall
   have hD := (rec_ok s hs F).2.2 (toks s) r0 hgl hr0
   rw [ht] at hD
   have hD : ObjToP C 117 (pcells s (s.length - (headT s).2.2.length) (tokK (headT s).1) (tokT (headT s).1) (tokN (headT s).1) (s.length - (headT s).2.1.length)) [] (Rr s r0) (Xr s r0) := hD
   have hc2 : ∀ w1,ButQ (w.heap.size + 3) (wholeW s w) w1 → w1.heap[w.heap.size + 3]? = some (.cells (pvs s (s.length - (headT s).2.2.length) (tokK (headT s).1) (tokT (headT s).1) (tokN (headT s).1) (s.length - (headT s).2.1.length)) 105) → _ := fun w1 h hp =>
    objIn (m := 0) hD (w := w1) (imm := imm) (b := w.heap.size + 3) ⟨C.stable _ w1 (fun k hk => h.block k (by omega) (by omega)) hJ1.1,GlobOK.keep hJ.2 hi (fun k hk => (h.block k (by omega) (by omega)).trans (zk k hk))⟩ (by omega) (fun b o hbo => by have := hi b o hbo; have := h.size; omega) hnb hp
   have g1 : ∀ w1,(ButQ (w.heap.size + 3) (wholeW s w) w1 ∧ _) → _ := fun w1 h => hc2 w1 h.1 h.2
   have first1 : CallsIn Fence.wide 0 Tryz.prog 116 #[.pointer (some ⟨w.heap.size + 3,0,none⟩)] (wholeW s w) fun e w1 => ∃ v,e = .returned v ∧ ButQ (w.heap.size + 3) (wholeW s w) w1 ∧ w1.heap[w.heap.size + 3]? = some (.cells (pvs s (s.length - (headT s).2.2.length) (tokK (headT s).1) (tokT (headT s).1) (tokN (headT s).1) (s.length - (headT s).2.1.length)) 105) := by
    refine hc1.mono ?_
    rintro e w1 ⟨h1,⟨v,r,ys,rfl,⟨h2,h3,rfl⟩,h5,h6⟩ | ⟨v,rfl,h2,-⟩⟩
    ·exact ⟨v,rfl,h1,h6 _ _ _ _ _ _ rfl⟩
    ·rw [hbad] at h2; cases h2
   cases r0 with
   | err a =>
     have hres : some (PR.err a) = some res := hall
     obtain rfl := Option.some.inj hres
     gi_wp2_with (first
      | (refine ⟨trivial,rfl,?_⟩; refine first1.mono ?_; rintro e w1 ⟨v,rfl,hb1,hp1⟩)
      | (refine ⟨trivial,rfl,?_⟩; refine (hc2 w1 hb1 hp1).mono ?_; rintro e w2 ⟨hb2,h2⟩; replace h2 : e = .panicked [{ v := pval (offT s a),recovered := false }] := (by (rcases h2 with ⟨v,r,ys,-,⟨q,l,h2,-⟩,-⟩ | ⟨v,h2,a',h3,rfl⟩); (cases h2); (injection h3 with h3; subst h3; exact h2)); subst h2))
     exact bad w2 _ _ _ _ (hb1.trans hb2) ⟨a,rfl,rfl⟩
   | ok q l1 =>
     have hg1 := goT_gl _ _ _ _ _ hgl hr0
     obtain ⟨⟨t1,a1⟩,l1,rfl,hbad1⟩ := hg1.2
     have second : ∀ w1,ButQ (w.heap.size + 3) (wholeW s w) w1 → w1.heap[w.heap.size + 3]? = some (.cells (pvs s (s.length - (headT s).2.2.length) (tokK (headT s).1) (tokT (headT s).1) (tokN (headT s).1) (s.length - (headT s).2.1.length)) 105) →
      CallsIn Fence.wide 0 Tryz.prog 117 #[.pointer (some ⟨w.heap.size + 3,0,none⟩)] w1 fun e w2 => ∃ (k : Int) (t : Bytes) (n : Int) (p : Option Addr) (len cap : Nat),e = .returned (.agg #[.int .i64 k,.string ⟨t.toArray⟩,.int .i64 n,.slice p len cap]) ∧ Rep (immOr imm w1.heap.size) w2 (.agg #[.int .i64 k,.string ⟨t.toArray⟩,.int .i64 n,.slice p len cap]) (.agg (encQy q)) ∧ ButQ (w.heap.size + 3) w1 w2 ∧
       w2.heap[w.heap.size + 3]? = some (.cells (pvs s (s.length - a1.2.length) (tokK t1) (tokT t1) (tokN t1) (s.length - a1.1.length)) 105) := by
      intro w1 h1 h2
      refine (hc2 w1 h1 h2).mono ?_
      rintro e w2 ⟨h3,⟨v,r,ys,rfl,⟨q',l',h4,rfl,rfl⟩,h5,h6⟩ | ⟨v,rfl,a',h4,-⟩⟩
      ·injection h4 with h4 h7
       subst h4; subst h7
       obtain ⟨k,t,n,p,len,cap,rfl⟩ := rep_four h5
       exact ⟨k,t,n,p,len,cap,rfl,h5,h3,h6 _ _ _ _ _ _ rfl⟩
      ·cases h4
     have third : ∀ w1 w2,ButQ (w.heap.size + 3) (wholeW s w) w1 → ButQ (w.heap.size + 3) w1 w2 → w2.heap[w.heap.size + 3]? = some (.cells (pvs s (s.length - a1.2.length) (tokK t1) (tokT t1) (tokN t1) (s.length - a1.1.length)) 105) →
      ∃ y0 y1 y2 y3 y4 y5,w2.cell? ⟨w.heap.size,0,none⟩ = some y0 ∧ w2.cell? ⟨w.heap.size,1,none⟩ = some y1 ∧ w2.cell? ⟨w.heap.size,2,none⟩ = some y2 ∧ w2.cell? ⟨w.heap.size,3,none⟩ = some y3 ∧ w2.cell? ⟨w.heap.size + 1,0,none⟩ = some y4 ∧ w2.cell? ⟨w.heap.size + 2,0,none⟩ = some y5 ∧
        (∀ o,w2.frozen? ⟨w.heap.size,o,none⟩ = false) ∧ (∀ o,w2.frozen? ⟨w.heap.size + 1,o,none⟩ = false) ∧ (∀ o,w2.frozen? ⟨w.heap.size + 2,o,none⟩ = false) ∧
        w2.cell? ⟨w.heap.size + 3,2,none⟩ = some (.int .i64 (tokK t1)) ∧ w2.cell? ⟨w.heap.size + 3,5,none⟩ = some (.int .i64 ((s.length - a1.1.length : Nat) : Int)) := by
      intro w1 w2 h1 h2 h3
      obtain ⟨g0,g1,g2,g3⟩ := f1 w2 (h1.trans h2)
      obtain ⟨⟨e0,e1,e2,e3,e4,e5⟩,e6,e7,e8⟩ := facts_of g1 g2 g3
      refine ⟨_,_,_,_,_,_,e0,e1,e2,e3,e4,e5,e6,e7,e8,?_,?_⟩ <;> simp [World.cell?,h3,pvs]
     by_cases hstop : tokK t1 = 0
     ·have hres : res = .ok q [] := by
       have : some (PR.ok q []) = some res := by
        rw [← hall]
        obtain rfl := tokK_stop hstop hbad1
        rfl
       exact (Option.some.inj this).symm
      subst hres
      gi_wp2_with (first
       | (refine ⟨trivial,rfl,?_⟩; refine first1.mono ?_; rintro e w1 ⟨v,rfl,hb1,hp1⟩)
       | (refine ⟨trivial,rfl,?_⟩; refine (second w1 hb1 hp1).mono ?_; rintro e w2 ⟨k,t,n,p,len,cap,rfl,hrep,hb2,hp2⟩; obtain ⟨y0,y1,y2,y3,y4,y5,e0,e1,e2,e3,e4,e5,e6,e7,e8,e9,e10⟩ := third w1 w2 hb1 hb2 hp2))
      have hsz := hb1.size
      have hB : RowKit.Below w.heap.size w w2 := (f1 w2 (hb1.trans hb2)).1
      obtain ⟨u0,u1,u2,u3,u4,u5⟩ := cells10 e0 e1 e2 e3 e4 e5 (.int .i64 k) (.string ⟨t.toArray⟩) (.int .i64 n) (.slice p len cap) (.int .i64 0) (.bool true) _ rfl
      refine leave_good (l := []) (c0 := .int .i64 k) (c1 := .string ⟨t.toArray⟩) (c2 := .int .i64 n) (c3 := .slice p len cap) _ _ _ u0 u1 u2 u3 u4 u5 ?_ ?_
      ·refine hrep.keep (fun b o h => ?_) (fun b o c h hc => ?_) (fun b es c h hc => ?_)
       ·rcases h with h | h
        ·exact .inl h
        ·exact .inr (by omega)
       ·have hne : b ≠ w.heap.size ∧ b ≠ w.heap.size + 1 ∧ b ≠ w.heap.size + 2 := by
         rcases h with h | h
         ·have := hi b o h; omega
         ·omega
        rw [← hc]
        simp only [World.cell?]
        rw [setCells10 _ hne.1 hne.2.1 hne.2.2]
       ·have hne : b ≠ w.heap.size ∧ b ≠ w.heap.size + 1 ∧ b ≠ w.heap.size + 2 := by
         rcases h with h | h
         ·have := hi b 0 h; omega
         ·omega
        rw [← hc]
        rw [setCells10 _ hne.1 hne.2.1 hne.2.2]
      ·exact (((((((((hB.setCell (Nat.le_refl _) _).setCell (Nat.le_refl _) _).setCell (Nat.le_refl _) _).setCell (Nat.le_refl _) _).setCell (Nat.le_refl _) _).setCell (Nat.le_refl _) _).setCell (Nat.le_refl _) _).setCell (Nat.le_refl _) _).setCell (Nat.le_succ _) _).setCell (Nat.le_add_right _ 2) _
     ·have hres : res = .err a1 := by
       have : some (PR.err a1) = some res := by
        rw [← hall]
        cases t1 <;> first | rfl | exact absurd rfl hstop
       exact (Option.some.inj this).symm
      subst hres
      have hpan : ∀ (i : Int) (w : World),(Instr.panic (.iface 99 (.int .i64 i))).run Tryz.prog w = .halt (.panic (.iface 99 (.int .i64 i))) w := fun _ _ => rfl
      gi_wp2_with (first
       | (refine ⟨trivial,rfl,?_⟩; refine first1.mono ?_; rintro e w1 ⟨v,rfl,hb1,hp1⟩)
       | (refine ⟨trivial,rfl,?_⟩; refine (second w1 hb1 hp1).mono ?_; rintro e w2 ⟨k,t,n,p,len,cap,rfl,hrep,hb2,hp2⟩; obtain ⟨y0,y1,y2,y3,y4,y5,e0,e1,e2,e3,e4,e5,e6,e7,e8,e9,e10⟩ := third w1 w2 hb1 hb2 hp2))
      have hB := f1 w2 (hb1.trans hb2)
      refine leave_bad _ _ _ ⟨a1,rfl,rfl⟩ ?_ ?_ ?_ ?_ ?_ ?_ (fun d o hd => ?_) ?_
      ·simp [go_sem,e0,e1,e2,e3,e4,e5]
      ·simp [go_sem,e0,e1,e2,e3,e4,e5]
      ·simp [go_sem,e0,e1,e2,e3,e4,e5]
      ·simp [go_sem,e0,e1,e2,e3,e4,e5]
      ·simp [go_sem,e0,e1,e2,e3,e4,e5]
      ·simp [go_sem,e0,e1,e2,e3,e4,e5]
      ·match d,hd with
       | 0,_ => simp [go_sem,e6]
       | 1,_ => simp [go_sem,e7]
       | 2,_ => simp [go_sem,e8]
      ·exact (((hB.1.setCell (Nat.le_refl _) _).setCell (Nat.le_refl _) _).setCell (Nat.le_refl _) _).setCell (Nat.le_refl _) _
end Go.Proofs

end

section
open Go Go.Proofs Go.RowKit
namespace Qv
def parsed (q : Qy) (i : Nat) (e : Int) : AV := .tup [.agg (encQy q),.int .i64 i,.int .i64 e]
def parseQ (s : Bytes) : AV :=
 if 65536 < s.length then parsed zeroQ 0 4 else match allT (toks s) with
  | some (.ok q _) => if checkQ globB q = 0 then parsed q 0 0 else parsed zeroQ 0 (checkQ globB q)
  | some (.err a) => parsed zeroQ (offT s a) 3
  | none => parsed zeroQ 0 0
theorem parseQ_ok (s : Bytes) (hsz : s.length ≤ 2 ^ 62) : CallsTo C 35 [.str s] (fun r => r = .val (parseQ s)) := by
 have out : ∀ x,parseQ s = x → (fun r => r = Ret.val (parseQ s)) (.val x) := fun x h => by rw [h]
 refine cTo' Tryz.func35 rfl rfl rfl ?_
 refine al_dec (fun h => ?_) (fun h => ?_)
 ·have h : (s.length : Int) > 65536 := h
  exact out _ (if_pos (by omega))
 ·have h : ¬ (s.length : Int) > 65536 := h
  unfold parseQ
  rw [if_neg (by omega)]
  obtain ⟨res,hres⟩ : ∃ res,allT (toks s) = some res := Option.ne_none_iff_exists'.1 (allT_ok (toks_ok _ s (Nat.le_refl _)))
  have hw := whole_ok s (by omega) res hres
  rw [hres]
  cases res with
  | err a =>
    have hw : CallsTo C 62 [.str s] (fun r => r = .val (.tup [.agg [.int .i64 0,.str [],.int .i64 0,.sl []],.int .i64 (offT s a),.bool false])) := hw
    refine ⟨_,hw,fun r hr => ?_⟩
    subst hr
    refine al_not ?_
    exact rfl
  | ok q l =>
    have hq := parse_sz (by omega) hres
    obtain ⟨k,t,n,sub⟩ := q
    have hw : CallsTo C 62 [.str s] (fun r => r = .val (.tup [.agg (encQy (.mk k t n sub)),.int .i64 0,.bool true])) := hw
    refine ⟨_,hw,fun r hr => ?_⟩
    subst hr
    refine al_not ?_
    refine ⟨_,check_ok (.mk k t n sub) hq,fun r hr => ?_⟩
    subst hr
    refine al_ne (fun h => ?_) (fun h => ?_)
    ·have h : ¬ checkQ globB (.mk k t n sub) = 0 := h
     simp only [if_neg h]
     exact rfl
    ·have h : checkQ globB (.mk k t n sub) = 0 := h
     simp only [if_pos h]
     exact rfl
end Qv

end
