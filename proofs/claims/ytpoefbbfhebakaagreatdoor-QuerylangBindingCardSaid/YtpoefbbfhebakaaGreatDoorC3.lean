/- Several texts in one: Rules for structs of many cells that are loaded and stored whole and what follows. No condition. -/
import Derived.Test.YtpoefbbfhebakaaGreatDoorCv4
import Derived.Test.YtpoefbbfhebakaaGreatDoorC1
set_option linter.unusedVariables false
set_option linter.unusedSimpArgs false

section
open Go Go.RowKit
namespace Qv
theorem takeN_all : ∀ (cells : List FV),takeN cells.length cells = some cells
 | [] => rfl
 | x :: l => by
   simp only [List.length_cons,takeN,takeN_all l]
theorem setN_at {α : Type} (b y : α) (B : List α) : ∀ (A : List α),setN (A ++ b :: B) A.length y = some (A ++ y :: B)
 | [] => rfl
 | a :: A => by
   simp only [List.cons_append,List.length_cons,setN,setN_at b y B A]
theorem setRange_at {α : Type} : ∀ (ys A B : List α),B.length = ys.length → setRange (A ++ B) A.length ys = some (A ++ ys)
 | [],A,B,h => by
   have : B = [] := List.length_eq_zero_iff.1 h
   subst this
   simp [setRange]
 | y :: ys,A,[],h => by simp at h
 | y :: ys,A,b :: B,h => by
   simp only [setRange,setN_at]
   have := setRange_at ys (A ++ [y]) B (by simpa using h)
   simpa using this
theorem setRange_all {α : Type} (xs zs : List α) (h : xs.length = zs.length) : setRange xs 0 zs = some zs := by
 have := setRange_at zs [] xs h
 simpa using this
theorem evLoad_whole {C : Ctx} {objs : List (Nat × List FV)} {t : TypeId} {ob : Nat} {cells : List FV} {K : FV → Prop} {i : TInfo} (ht : tabGet C.tab t = some i) (hi : i.shape.isAgg = true) (hc : Qv.getObj objs ob = some cells) (hl : cells.length = i.size) (h : K (.agg cells)) :
 evLoad C objs t (.ptr ob 0) K := by
 unfold evLoad
 simp only [ht,hc,hi,dropN]
 rw [← hl,takeN_all]
 exact h
theorem evOps_store {C : Ctx} {call : CallH} {Y : Yld} {ops : Array Oper} {rest : List Oper} {K : ASt → Prop} {S : ASt} {o : Oper} (t : TypeId) (a x : Operand) (ob : Nat) (cells old : List FV) {i : TInfo} (hg : o.guard = none) (hop : o.op = .store t a x) (ht : tabGet C.tab t = some i)
 (ha : S.val a = .ptr ob 0) (hx : S.val x = .agg cells) (hc : Qv.getObj S.objs ob = some old) (hl : cells.length = i.size) (hl2 : old.length = i.size) (h1 : allOne cells = true) (h : evOps C call Y ops rest K ((S.setO ob cells).put o.dst (.p (.tup [])))) : evOps C call Y ops (o :: rest) K S := by
 unfold evOps
 simp only [hg]
 unfold evOp
 simp only [hop,ht,ha,hx,hc,FV.cells,hl,Nat.beq_refl,h1]
 rw [setRange_all old cells (by omega)]
 simp only [forceL_eq]
 exact h
theorem evRegion_load {C : Ctx} {call : CallH} {Y : Yld} {ops : Array Oper} {K : ASt → Prop} {S : ASt} (o : Oper) (rest : List Oper) (t : TypeId) (a : Operand) (ob : Nat) (cells : List FV) {i : TInfo} (hops : ops.toList = o :: rest) (hgd : guarded ops.toList = false) (hg : o.guard = none) (hop : o.op = .load t a) (ht : tabGet C.tab t = some i) (hi : i.shape.isAgg = true)
 (ha : S.val a = .ptr ob 0) (hc : Qv.getObj S.objs ob = some cells) (hl : cells.length = i.size) (h : evOps C call Y ops rest K (S.put o.dst (.agg cells))) : evRegion C call Y ops false K S := by
 unfold evRegion
 simp only [hgd]
 rw [hops]
 unfold evOps
 simp only [hg]
 unfold evOp
 simp only [hop]
 unfold evVal
 simp only [ha]
 exact evLoad_whole ht hi hc hl h
theorem evOps_step {C : Ctx} {call : CallH} {Y : Yld} {ops : Array Oper} {rest : List Oper} {K : ASt → Prop} {S : ASt} {o : Oper} (v : FV) (hg : o.guard = none) (hv : ∀ K' : ASt → Prop,K' (S.put o.dst v) → evOp C call Y o K' S) (h : evOps C call Y ops rest K (S.put o.dst v)) :
 evOps C call Y ops (o :: rest) K S := by
 unfold evOps
 simp only [hg]
 exact hv _ h
theorem evOps_alloc {C : Ctx} {call : CallH} {Y : Yld} {ops : Array Oper} {rest : List Oper} {K : ASt → Prop} {S : ASt} {o : Oper} (t : TypeId) (d nm : Nat) (cells : List FV) {i : TInfo} (hg : o.guard = none) (hd : o.dst = some d) (hop : o.op = .alloc t) (ht : tabGet C.tab t = some i) (hb : Nat.beq t C.bT = false)
 (hnm : S.off + d = nm) (h9 : Nat.beq nm 999999 = false) (hk : FV.killL nm (i.zero.map FV.ofVal1) = cells) (h : evOps C call Y ops rest K { (S.kill nm).put (some d) (.ptr nm 0) with objs := (nm,cells) :: delObj nm S.objs }) : evOps C call Y ops (o :: rest) K S := by
 unfold evOps
 simp only [hg]
 unfold evOp
 simp only [hop,hd,ht,hb,forceL_eq,newObjK]
 rw [withNmL_eq,hnm]
 refine ⟨h9,?_⟩
 rw [hk]
 exact h
theorem gotK_val {S : ASt} {dst : Option Nat} {x : AV} {K : ASt → Prop} (h : K (S.put dst (.p x))) : gotK S dst (.val x) K := h
theorem evOps_storeP {C : Ctx} {call : CallH} {Y : Yld} {ops : Array Oper} {rest : List Oper} {K : ASt → Prop} {S : ASt} {o : Oper} (t : TypeId) (a x : Operand) (ob off : Nat) (cells old new : List FV) {i : TInfo} (hg : o.guard = none) (hop : o.op = .store t a x) (ht : tabGet C.tab t = some i)
 (ha : S.val a = .ptr ob off) (hx : (S.val x).cells = cells) (hc : Qv.getObj S.objs ob = some old) (hl : cells.length = i.size) (h1 : allOne cells = true) (hs : setRange old off cells = some new) (h : evOps C call Y ops rest K ((S.setO ob new).put o.dst (.p (.tup [])))) : evOps C call Y ops (o :: rest) K S := by
 unfold evOps
 simp only [hg]
 unfold evOp
 simp only [hop,ht,ha,hx,hc,hl,Nat.beq_refl,h1,hs,forceL_eq]
 exact h
theorem evReturn_cell {C : Ctx} {R : Ret → Prop} {S : ASt} (a : Nat) (t : TypeId) (u ob : Nat) (cells : List FV) (ys : List AV) (y : AV) {i : TInfo} (hf : C.ex.full = false) (ht : tabGet C.tab t = some i) (hi : i.shape.isAgg = true)
 (ha : S.get a = .ptr ob 0) (hc : Qv.getObj S.objs ob = some cells) (hl : cells.length = i.size) (hy : FV.toAVs cells = some ys) (h1 : ys.all AV.one = true) (hu : (S.get u).toAV = some y) (h : R (.val (.tup [.agg ys,y]))) : evReturn C [.cell a t,.tmp u] R S := by
 unfold evReturn
 simp only [hf]
 unfold evResults
 rw [ha]
 refine evLoad_whole ht hi hc hl ?_
 simp only [FV.toAV,hy,h1,evResults,hu]
 exact h
end Qv

end

section
open Go Go.Proofs Go.RowKit
namespace Qv
end Qv

end

section
open Go Go.Proofs Go.RowKit
namespace Qv
end Qv

end

section
open Go Go.Proofs Go.RowKit
namespace Qv
def encC (set : List Bool) : List AV := .bool false :: .bool false :: set.map AV.bool
theorem encC_all (set : List Bool) : (encC set).all AV.one = true := by
 show (set.map AV.bool).all AV.one = true
 induction set with
 | nil => rfl
 | cons b l ih => exact ih
section
attribute [local irreducible] evReturn
end
end Qv

end
