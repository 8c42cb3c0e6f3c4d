/- Several texts in one: Contracts: the weight; what Cost hands back; sizes and what follows. No condition. -/
import Derived.Test.YtpoefbbfhebakaaGreatDoorFC
import Derived.RangeFuncNested
import Derived.RangeFuncBound
import Derived.RangeFuncCalls
import Derived.RangeFuncLeaves
import Derived.Shelf.Abstract
import Derived.Shelf.RegionOpen
import Derived.WalkKit
import Derived.OwnWalkIn
import Derived.TacticsInMore
import Derived.LoopNIn
import Derived.LoopIn
set_option linter.unusedVariables false
set_option linter.unusedSimpArgs false

section
open Go Go.Proofs Go.RowKit
namespace Qv
theorem weightC_ok (k : Int) : CallsTo C 57 [.int .i64 k] (fun r => r = .val (.int .i64 (weightF k))) := by
 have e : ∀ m : Nat,weightF k = m → (fun r => r = Ret.val (.int .i64 (weightF k))) (.val (.int .i64 (m : Nat))) := fun m h => by rw [h]
 refine cTo' Tryz.func57 rfl rfl rfl ?_
 unfold weightF at e ⊢
 refine al_eq (fun h => ?_) (fun h => ?_)
 ·have h : k = 8 := h
  exact e 2 (if_pos h)
 have h8 : ¬ k = 8 := h
 rw [if_neg h8] at e ⊢
 refine al_eq (fun h => ?_) (fun h => ?_)
 ·exact e 3 (if_pos (.inl h))
 have h3 : ¬ k = 3 := h
 refine al_eq (fun h => ?_) (fun h => ?_)
 ·exact e 3 (if_pos (.inr (.inl h)))
 have h6 : ¬ k = 6 := h
 refine al_eq (fun h => ?_) (fun h => ?_)
 ·exact e 3 (if_pos (.inr (.inr h)))
 have h7 : ¬ k = 7 := h
 rw [if_neg (by omega)] at e ⊢
 refine al_eq (fun h => ?_) (fun h => ?_)
 ·exact e 5 (if_pos h)
 have h4 : ¬ k = 4 := h
 rw [if_neg h4] at e ⊢
 refine al_eq (fun h => ?_) (fun h => ?_)
 ·exact e 20 (if_pos h)
 have h5 : ¬ k = 5 := h
 rw [if_neg h5] at e ⊢
 refine al_eq (fun h => ?_) (fun h => ?_)
 ·exact e 10 (if_pos (.inl h))
 have h12 : ¬ k = 12 := h
 refine al_eq (fun h => ?_) (fun h => ?_)
 ·exact e 10 (if_pos (.inr h))
 have h13 : ¬ k = 13 := h
 exact e 1 (if_neg (by omega))
theorem weight_le (k : Int) : weightF k ≤ 20 := by
 unfold weightF
 repeat' split
 all_goals omega
theorem cost_le (q : Qy) : costF q ≤ 20 * q.parts := by
 refine Qy.ind (P := fun q => costF q ≤ 20 * q.parts) ?_ q
 intro k t n l ih
 have key : ∀ l : List Qy,(∀ x,x ∈ l → costF x ≤ 20 * x.parts) → costL l ≤ 20 * partsL l := by
  intro l
  induction l with
  | nil => intro _; exact Nat.le_refl 0
  | cons x l i2 =>
    intro h
    have h1 := h x (by simp)
    have h2 := i2 fun y hy => h y (by simp [hy])
    show costF x + costL l ≤ 20 * (x.parts + partsL l)
    omega
 have h1 := key l ih
 have h2 := weight_le k
 show costL l + weightF k ≤ 20 * (partsL l + 1)
 omega
noncomputable def costQ (q : Qy) : Int := if checkQ globB q ≠ 0 then 0 else (costF q : Int)
theorem check_parts {q : Qy} (h : checkQ globB q = 0) : q.parts ≤ 200 := by
 unfold checkQ at h
 split at h
 ·rename_i hf; exact hf.1
 ·cases h
theorem sz_optQ (q : Qy) (hs : szQ q) : szQ (optQ q).1 := by
 unfold optQ
 split
 ·exact sz_const 0
 ·rename_i h
  exact sz_opt q (check_all (by apply Classical.byContradiction; exact h)) hs
end Qv

end

section
namespace Go.Proofs
open Go.RowKit Go.Shelf Qv
attribute [local go_sem] Oper.semAt_some
structure PartV where
 k : Int
 t : List UInt8
 n : Int
 p : Option Addr
 len : Nat
 cap : Nat
def PartV.agg (x : PartV) : Value := .agg #[.int .i64 x.k,.string ⟨x.t.toArray⟩,.int .i64 x.n,.slice x.p x.len x.cap]
mutual
def kindsF : Qy → List Int
 | .mk k _ _ l => k :: kindsL l
def kindsL : List Qy → List Int
 | [] => []
 | q :: l => kindsF q ++ kindsL l
end
set_option maxHeartbeats 1000000 in
theorem partsQ_in (F : Fence) (n : Nat) (h : F.fn 56) (hro : F.round = none) (a b c d : Value) (w : World) :
 CallsIn F n Tryz.prog 56 #[.agg #[a,b,c,d]] w fun e w' => e = .returned (.func (.func 103) #[] #[.pointer (some ⟨w.heap.size,0,none⟩)]) ∧ w' = w.alloc (.cells #[a,b,c,d] 24) := by
 refine callsIn_of_wp Tryz.func56 rfl h ?_ hro
 have hn : Tryz.f56.ntmps = 4 := rfl
 simp only [hn,List.size_toArray,List.length_cons,List.length_nil,Nat.reduceAdd,Nat.reduceSub,Array.replicate_succ,Array.replicate_zero,List.push_toArray,List.append_toArray,List.nil_append,List.cons_append]
 gi_wp2
 go_ret
 exact ⟨rfl,rfl⟩
end Go.Proofs

end

section
namespace Go.Proofs
open Go.RowKit Go.Shelf Qv
structure But (B : Nat) (W W' : World) : Prop where
 os : W'.os = W.os
 tape : W'.tape = W.tape
 output : W'.output = W.output
 size : W.heap.size ≤ W'.heap.size
 block : ∀ k,k < W.heap.size → k ≠ B → W'.heap[k]? = W.heap[k]?
theorem But.refl (B : Nat) (W : World) : But B W W := ⟨rfl,rfl,rfl,Nat.le_refl _,fun _ _ _ => rfl⟩
theorem But.trans {B : Nat} {X Y Z : World} (h : But B X Y) (g : But B Y Z) : But B X Z :=
 ⟨g.os.trans h.os,g.tape.trans h.tape,g.output.trans h.output,Nat.le_trans h.size g.size,fun k hk hb => (g.block k (Nat.lt_of_lt_of_le hk h.size) hb).trans (h.block k hk hb)⟩
theorem But.alloc {B : Nat} {X Y : World} (h : But B X Y) (o : Obj) : But B X (Y.alloc o) :=
 h.trans ⟨rfl,rfl,rfl,by simp,fun k hk _ => Below.heap_alloc Y o k hk⟩
theorem But.putObj {B : Nat} {X Y : World} (h : But B X Y) {l : Nat} (hl : X.heap.size ≤ l) (o : Obj) : But B X (Y.putObj l o) :=
 ⟨h.os,h.tape,h.output,by simpa [World.putObj] using h.size,fun k hk hb => (World.putObj_heap_other (by omega)).trans (h.block k hk hb)⟩
def SumAt (W : World) (B : Nat) (m : Int) : Prop := W.heap[B]? = some (.cells #[.int .i64 m] 3)
def accF (m k : Int) : Int := IntKind.i64.wrap (m + weightF k)
def Adds (F : Fence) (P : Program) (l B : Nat) (W0 : World) : Prop :=
 ∀ (n : Nat) (W : World) (x : PartV) (m : Int),But B W0 W → SumAt W B m → YieldAt F n P l #[x.agg] W fun e W' => e = .returned (.bool true) ∧ But B W W' ∧ SumAt W' B (accF m x.k)
theorem Adds.later {F : Fence} {P : Program} {l B : Nat} {W0 W1 : World} (h : Adds F P l B W0) (hb : But B W0 W1) : Adds F P l B W1 := fun n W x m h1 h2 => h n W x m (hb.trans h1) h2
def IterAdds (F : Fence) (n : Nat) (P : Program) (g : FuncId) (lb : Array Value) (B : Nat) (W : World) (ks : List Int) : Prop :=
 ∀ (l : Nat) (m : Int),SumAt W B m → Adds F P l B W → CallsIn F n P g (#[.func (.yield l) #[] #[]] ++ lb) W fun e W' => (∃ v,e = .returned v) ∧ But B W W' ∧ SumAt W' B (ks.foldl accF m)
theorem SumAt.alloc {W : World} {B : Nat} {m : Int} (h : SumAt W B m) (o : Obj) : SumAt (W.alloc o) B m :=
 (Below.heap_alloc W o B (Array.getElem?_eq_some_iff.1 h).1).trans h
theorem range_adds {F : Fence} {n : Nat} {P : Program} {g : Operand} {ps : Array Tmp} {assign body : Code} {Q : Exit → Act → World → Prop} {a : Act} {w : World} (hro : F.round = none) (hd : F.depth = none)
 {gf : Nat} {lb : Array Value} (hg : a.eval g = .func (.func gf) #[] lb) (hFg : F.fn gf) (eg : ∀ args w,(callFunc gf args).run P w = .ok (.enter gf args) w) (hps : ps.size = 1)
 {B : Nat} {m : Int} {ks : List Int} (hm : SumAt w B m) (hFa : ∀ f,F.fn f)
 (hseq : ∀ W,But B w W → IterAdds F (n - 1) P gf lb B W ks)
 (hround : ∀ (n' l : Nat) (W : World) (x : PartV) (m : Int) (r : Loop),w.heap.size ≤ l → W.heap[l]? = some (.loop r) → But B w W → SumAt W B m →
  assign.wpIn (F.inRound l) n' P (Exit.then (fun a' W' => But B W W' ∧ ∀ W2,W2 = W'.putObj l (.loop { r with state := .busy }) →
   body.wpIn (F.inRound l) n' P (fun e _ W3 => e = .normal ∧ But B W2 W3 ∧ SumAt W3 B (accF m x.k)) a' W2) (fun _ _ _ => False))
   { tmps := (ps.zip #[x.agg]).foldl (fun t (p,v) => t.setIfInBounds p v) a.tmps,defers := [] } W)
 (hdone : ∀ W,But B w W → SumAt W B (ks.foldl accF m) → W.heap[w.heap.size]? = some (.deferred (some [])) → w.heap.size + 1 < W.heap.size →
  Q .normal { a with defers := { target := .collected w.heap.size,args := #[] } :: a.defers } W) :
 (Code.rangeFunc g ps assign body).wpIn F n P Q a w := by
 refine wpIn_rangeFunc fun fn hfn => ?_
 rw [hro]
 have hBw : B < w.heap.size := (Array.getElem?_eq_some_iff.1 hm).1
 generalize hrec : ({ state := .ready,pending := none,fn := fn,tmps := a.tmps,params := ps,assign := assign,body := body,defers := w.heap.size } : Loop) = rec
 obtain ⟨W1,hW1⟩ : ∃ W1,(w.alloc (.deferred (some []))).alloc (.loop rec) = W1 := ⟨_,rfl⟩
 have hb1 : But B w W1 := by rw [← hW1]; exact ((But.refl B w).alloc _).alloc _
 have hs1 : SumAt W1 B m := by rw [← hW1]; exact (hm.alloc _).alloc _
 have hsz : W1.heap.size = w.heap.size + 2 := by rw [← hW1]; simp
 have hL1 : W1.heap[w.heap.size + 1]? = some (.loop rec) := by
  rw [← hW1]
  have := World.alloc_heap_new (w.alloc (.deferred (some []))) (.loop rec)
  rwa [World.size_alloc] at this
 have hK1 : W1.heap[w.heap.size]? = some (.deferred (some [])) := by
  rw [← hW1]
  exact (Below.heap_alloc _ _ _ (by simp)).trans (World.alloc_heap_new w _)
 refine ⟨w.heap.size + 1,[{ target := .collected w.heap.size,args := #[] }],W1,{ target := .fn (.func gf) lb,args := #[.func (.yield (w.heap.size + 1)) #[] #[]] },W1,gf,#[.func (.yield (w.heap.size + 1)) #[] #[]] ++ lb,W1,?_,?_,fun f' _ => hFa f',?_,fun h => (by rw [hd] at h; cases h),?_⟩
 ·rw [← hW1,← hrec]
  exact run_enterLoop_outer fn a.tmps ps assign body
 ·simp only [resolve,rangeCall,hg]
  simp [go_sem,hg]
 ·simp [invoke,go_sem,eg]
 ·refine (hseq W1 hb1 (w.heap.size + 1) m hs1 ?_).mono ?_
  ·intro n' W x m' hbW hsW
   have hl : W.heap[w.heap.size + 1]? = some (.loop rec) := (hbW.block _ (by omega) (by omega)).trans hL1
   have hy := run_yield (P := P) (args := #[x.agg]) hl (by rw [← hrec]; exact hps.symm)
   have hrd := fun n'' => hround n'' (w.heap.size + 1) W x m' rec (by omega) hl (hb1.trans hbW) hsW
   refine ⟨_,_,_,_,hy,?_⟩
   refine roundIn_of_wpIn (hFa _) ?_
   have hassign : rec.assign = assign := by rw [← hrec]
   have hbody : rec.body = body := by rw [← hrec]
   have htm : rec.tmps = a.tmps := by rw [← hrec]
   have hpm : rec.params = ps := by rw [← hrec]
   rw [hassign,hbody,htm,hpm]
   refine wpIn_mono (hrd n') ?_
   intro e a' W' hq
   cases e with
   | normal =>
     obtain ⟨hq1,hq2⟩ := hq
     have hlW : w.heap.size + 1 < W.heap.size := (Array.getElem?_eq_some_iff.1 hl).1
     have hl' : W'.heap[w.heap.size + 1]? = some (.loop rec) := (hq1.block _ hlW (by omega)).trans hl
     refine ⟨_,run_beginRound hl' (by rw [← hrec]),?_⟩
     refine wpIn_mono (hq2 _ rfl) ?_
     rintro e a2 W3 ⟨rfl,hb3,hs3⟩
     have hl2 : (W'.putObj (w.heap.size + 1) (.loop { rec with state := .busy })).heap[w.heap.size + 1]? = some (.loop { rec with state := .busy }) := World.putObj_heap_same (Array.getElem?_eq_some_iff.1 hl').1
     have hlW2 := (Array.getElem?_eq_some_iff.1 hl2).1
     have hl3 := (hb3.block _ hlW2 (by omega)).trans hl2
     refine ⟨_,_,run_endRound none hl3,rfl,?_,?_⟩
     ·refine ⟨hb3.os.trans hq1.os,hb3.tape.trans hq1.tape,hb3.output.trans hq1.output,?_,fun k hk hkB => ?_⟩
      ·have h1 := hb3.size
       have h2 := hq1.size
       simp [World.putObj] at h1 ⊢
       omega
      ·by_cases hkl : k = w.heap.size + 1
       ·subst hkl
        rw [hl]
        refine (World.putObj_heap_same (Array.getElem?_eq_some_iff.1 hl3).1).trans ?_
        rw [← hrec]; rfl
       ·refine (World.putObj_heap_other (by omega)).trans ?_
        refine (hb3.block k (by have := hq1.size; simp [World.putObj]; omega) hkB).trans ?_
        exact (World.putObj_heap_other (by omega)).trans (hq1.block k hk hkB)
     ·exact (World.putObj_heap_other (by omega)).trans hs3
   | _ => exact hq.elim
  ·rintro e W' ⟨⟨v,rfl⟩,hbW,hsW⟩
   have hl : W'.heap[w.heap.size + 1]? = some (.loop rec) := (hbW.block _ (by omega) (by omega)).trans hL1
   have hk : W'.heap[w.heap.size]? = some (.deferred (some [])) := (hbW.block _ (by omega) (by omega)).trans hK1
   have hlt := (Array.getElem?_eq_some_iff.1 hl).1
   have he := run_endLoop (P := P) hl (by rw [← hrec]; simp)
   refine ⟨_,_,he,?_⟩
   have hp : rec.pending = none := by rw [← hrec]
   rw [hp]
   refine hdone _ ((hb1.trans hbW).putObj (by omega) _) ((World.putObj_heap_other (by omega)).trans hsW) ((World.putObj_heap_other (by omega)).trans hk) ?_
   simpa [World.putObj] using hlt
end Go.Proofs

end

section
namespace Go.Proofs
open Go.RowKit Go.Shelf Qv
attribute [local go_sem] Oper.semAt_some
inductive QAt (B : Nat) (W : World) : PartV → Qy → Prop
 | mk (k : Int) (t : Bytes) (n : Int) (l : List Qy) (p : Option Addr) (cap b off : Nat) (xs : Nat → PartV) :
  (∀ (i : Nat) (q : Qy),l[i]? = some q → QAt B W (xs i) q) →
  (∀ (i : Nat) (q : Qy),l[i]? = some q → p = some ⟨b,off,none⟩ ∧ b ≠ B ∧ W.cell? ⟨b,off + i * 4,none⟩ = some (.int .i64 (xs i).k) ∧ W.cell? ⟨b,off + i * 4 + 1,none⟩ = some (.string ⟨(xs i).t.toArray⟩) ∧
   W.cell? ⟨b,off + i * 4 + 2,none⟩ = some (.int .i64 (xs i).n) ∧ W.cell? ⟨b,off + i * 4 + 3,none⟩ = some (.slice (xs i).p (xs i).len (xs i).cap)) →
  QAt B W ⟨k,t,n,p,l.length,cap⟩ (.mk k t n l)
theorem cell_lt {W : World} {b o : Nat} {v : Value} (h : W.cell? ⟨b,o,none⟩ = some v) : b < W.heap.size := by
 cases hb : W.heap[b]? with
 | none => simp [World.cell?,hb] at h
 | some x => exact (Array.getElem?_eq_some_iff.1 hb).1
theorem cell_of_heap {W : World} {b : Nat} {v : Value} {T : TypeId} (h : W.heap[b]? = some (.cells #[v] T)) : W.cell? ⟨b,0,none⟩ = some v := by
 simp [World.cell?,h]
theorem But.cell {B : Nat} {X Y : World} (h : But B X Y) {b o : Nat} {v : Value} (hb : b ≠ B) (hc : X.cell? ⟨b,o,none⟩ = some v) : Y.cell? ⟨b,o,none⟩ = some v := by
 have := h.block b (cell_lt hc) hb
 simp only [World.cell?] at hc ⊢
 rw [this]; exact hc
theorem QAt.but {B : Nat} {X Y : World} (h : But B X Y) {x : PartV} {q : Qy} (hq : QAt B X x q) : QAt B Y x q := by
 induction hq with
 | mk k t n l p cap b off xs _ h2 ih =>
   refine .mk k t n l p cap b off xs ih fun i q hi => ?_
   obtain ⟨e1,e2,e3,e4,e5,e6⟩ := h2 i q hi
   exact ⟨e1,e2,h.cell e2 e3,h.cell e2 e4,h.cell e2 e5,h.cell e2 e6⟩
theorem kinds_take {l : List Qy} : ∀ {i : Nat} {q : Qy},l[i]? = some q → kindsL (l.take (i + 1)) = kindsL (l.take i) ++ kindsF q := by
 induction l with
 | nil => intro i q h; cases h
 | cons x l ih =>
   intro i q h
   cases i with
   | zero =>
     have h : x = q := Option.some.inj h
     subst h
     exact List.append_nil _
   | succ i =>
     show kindsF x ++ kindsL (l.take (i + 1)) = (kindsF x ++ kindsL (l.take i)) ++ kindsF q
     rw [ih (i := i) h,List.append_assoc]
def iterLeft (n : Nat) (a' : Act) : Nat := match a'.tmps.getD 13 undef with
 | .int _ i => n - i.toNat
 | _ => 0
theorem leave_marks {F : Fence} {n : Nat} {P : Program} {fn : Func} {tmps : Array Value} {B : Nat} {w : World} {z : Int} (hres : fn.results = #[]) (hB : B < w.heap.size) : ∀ (ms : List Nat) (W : World),ms.Nodup →
 (∀ D,D ∈ ms → w.heap.size ≤ D ∧ W.heap[D]? = some (.deferred (some []))) → But B w W → SumAt W B z →
 LeavesInM F n P fn tmps (fun e W' => (∃ v,e = .returned v) ∧ But B w W' ∧ SumAt W' B z) (ms.map Qv.mark) .returning W := by
 intro ms
 induction ms with
 | nil => intro W _ _ hb hs; exact ⟨_,results_none hres _ _ _,⟨_,rfl⟩,hb,hs⟩
 | cons D ms ih =>
   intro W hnd hms hb hs
   obtain ⟨h1,h2⟩ := hms D (by simp)
   have hnd := List.nodup_cons.1 hnd
   refine ⟨by simp,.inl ⟨D,W.putObj D (.deferred none),rfl,run_takeDeferred h2,ih _ hnd.2 (fun D' hD' => ?_) (hb.putObj h1 _) ((World.putObj_heap_other (by omega)).trans hs)⟩⟩
   obtain ⟨h3,h4⟩ := hms D' (by simp [hD'])
   exact ⟨h3,(World.putObj_heap_other (by rintro rfl; exact hnd.1 hD')).trans h4⟩
set_option maxRecDepth 100000 in
set_option maxHeartbeats 2000000 in
theorem parts_adds (F : Fence) (hd : F.depth = none) (hF : ∀ f,F.fn f) (hro : F.round = none) (B : Nat) (q : Qy) : ∀ (n Bn : Nat) (w : World) (x : PartV),Bn ≠ B → szQ q →
 w.heap[Bn]? = some (.cells #[.int .i64 x.k,.string ⟨x.t.toArray⟩,.int .i64 x.n,.slice x.p x.len x.cap] 24) → QAt B w x q → IterAdds F n Tryz.prog 103 #[.pointer (some ⟨Bn,0,none⟩)] B w (kindsF q) := by
 refine Qy.ind (P := fun q => ∀ (n Bn : Nat) (w : World) (x : PartV),Bn ≠ B → szQ q →
  w.heap[Bn]? = some (.cells #[.int .i64 x.k,.string ⟨x.t.toArray⟩,.int .i64 x.n,.slice x.p x.len x.cap] 24) → QAt B w x q → IterAdds F n Tryz.prog 103 #[.pointer (some ⟨Bn,0,none⟩)] B w (kindsF q)) ?_ q
 intro k t n0 l ih n Bn w x hBn hs hbox hq y m hm hY
 obtain ⟨s1,s2,s3⟩ := szQ_mk.1 hs
 have hdd : ∀ k : Nat,(F.depth.isSome = true → 1 ≤ k) := fun k h => by rw [hd] at h; cases h
 cases hq with
 | mk _ _ _ _ p cap b off xs hx hc =>
 refine callsIn_of_wp_marks Tryz.func103 rfl (hF _) ?_ hro
 have hn : Tryz.f103.ntmps = 25 := rfl
 simp only [hn,List.size_toArray,List.length_cons,List.length_nil,Nat.reduceAdd,Nat.reduceSub,Array.replicate_succ,Array.replicate_zero,List.push_toArray,List.append_toArray,List.nil_append,List.cons_append]
 have hBlt := (Array.getElem?_eq_some_iff.1 hm).1
 have hBnlt := (Array.getElem?_eq_some_iff.1 hbox).1
 have c0 : w.cell? ⟨Bn,0,none⟩ = some (.int .i64 k) := by simp [World.cell?,hbox]
 have c1 : w.cell? ⟨Bn,1,none⟩ = some (.string ⟨t.toArray⟩) := by simp [World.cell?,hbox]
 have c2 : w.cell? ⟨Bn,2,none⟩ = some (.int .i64 n0) := by simp [World.cell?,hbox]
 have c3 : w.cell? ⟨Bn,3,none⟩ = some (.slice p l.length cap) := by simp [World.cell?,hbox]
 obtain ⟨fn,tmps,assign,body,hy,hR⟩ := hY (n - 1) (w.alloc (.cells #[.func (.yield y) #[] #[]] 31)) ⟨k,t,n0,p,l.length,cap⟩ m ((But.refl B w).alloc _) (hm.alloc _)
 dsimp only [PartV.agg] at hy
 gi_wp2
 refine hR.mono ?_
 clear hR hy
 rintro e W1 ⟨rfl,hb1,hs1⟩
 have hb0 : But B w W1 := ((But.refl B w).alloc _).trans hb1
 have d3 := hb0.cell hBn c3
 have hne : w.heap.size ≠ B := by omega
 have hyb : W1.cell? ⟨w.heap.size,0,none⟩ = some (.func (.yield y) #[] #[]) := hb1.cell hne (cell_of_heap (World.alloc_heap_new w _))
 gi_wp2
 refine wpIn_loop (fun a' W' => ∃ (i : Nat) (v4 v5 v14 v15 v16 v17 v18 v19 v20 v21 v22 v23 v24 : Value) (ms : List Nat),
  a' = { tmps := #[.func (.yield y) #[] #[],.pointer (some ⟨Bn,0,none⟩),.pointer (some ⟨w.heap.size,0,none⟩),undef,v4,v5,.func (.yield y) #[] #[],.agg #[.int .i64 k,.string ⟨t.toArray⟩,.int .i64 n0,.slice p l.length cap],.bool true,.bool false,
   .pointer (some ⟨Bn,3,none⟩),.slice p l.length cap,.int .i64 l.length,.int .i64 i,v14,v15,v16,v17,v18,v19,v20,v21,v22,v23,v24],defers := ms.map Qv.mark } ∧
  i ≤ l.length ∧ But B w W' ∧ SumAt W' B ((kindsL (l.take i)).foldl accF (accF m k)) ∧ W'.cell? ⟨w.heap.size,0,none⟩ = some (.func (.yield y) #[] #[]) ∧
  ms.Nodup ∧ ∀ D,D ∈ ms → w.heap.size ≤ D ∧ W'.heap[D]? = some (.deferred (some [])))
  (fun a' _ => iterLeft l.length a') ?start ?round
 case start =>
  exact ⟨0,_,_,_,_,_,_,_,_,_,_,_,_,_,[],rfl,Nat.zero_le _,hb0,hs1,hyb,List.nodup_nil,fun D hD => by cases hD⟩
 case round =>
  rintro a' W' ⟨i,v4,v5,v14,v15,v16,v17,v18,v19,v20,v21,v22,v23,v24,ms,rfl,hi,hbW,hsW,hyW,hnd,hms⟩
  by_cases hlt : i < l.length
  ·obtain ⟨q,hq⟩ : ∃ q,l[i]? = some q := ⟨_,List.getElem?_eq_getElem hlt⟩
   obtain ⟨e1,e2,e3,e4,e5,e6⟩ := hc i q hq
   subst e1
   have g0 := hbW.cell e2 e3
   have g1 := hbW.cell e2 e4
   have g2 := hbW.cell e2 e5
   have g3 := hbW.cell e2 e6
   have hqx := (hx i q hq).but hbW
   gi_wp2_with ((try refine ⟨hdd _,?_⟩); gi_at_call 56; refine (partsQ_in F (n - 1) (hF _) hro _ _ _ _ _).mono ?_; rintro e w' ⟨rfl,rfl⟩)
   have hsz : W'.heap.size ≤ W'.heap.size := Nat.le_refl _
   have hb2 : But B W' ((W'.alloc (.cells #[.int .i64 (xs i).k,.string ⟨(xs i).t.toArray⟩,.int .i64 (xs i).n,.slice (xs i).p (xs i).len (xs i).cap] 24)).alloc (.cells #[.int .i64 (xs i).k,.string ⟨(xs i).t.toArray⟩,.int .i64 (xs i).n,.slice (xs i).p (xs i).len (xs i).cap] 24)) := ((But.refl B W').alloc _).alloc _
   have hs2 := (hsW.alloc (.cells #[.int .i64 (xs i).k,.string ⟨(xs i).t.toArray⟩,.int .i64 (xs i).n,.slice (xs i).p (xs i).len (xs i).cap] 24)).alloc (.cells #[.int .i64 (xs i).k,.string ⟨(xs i).t.toArray⟩,.int .i64 (xs i).n,.slice (xs i).p (xs i).len (xs i).cap] 24)
   have hx2 : ((W'.alloc (.cells #[.int .i64 (xs i).k,.string ⟨(xs i).t.toArray⟩,.int .i64 (xs i).n,.slice (xs i).p (xs i).len (xs i).cap] 24)).alloc (.cells #[.int .i64 (xs i).k,.string ⟨(xs i).t.toArray⟩,.int .i64 (xs i).n,.slice (xs i).p (xs i).len (xs i).cap] 24)).heap[W'.heap.size + 1]? = some (.cells #[.int .i64 (xs i).k,.string ⟨(xs i).t.toArray⟩,.int .i64 (xs i).n,.slice (xs i).p (xs i).len (xs i).cap] 24) := by
    have := World.alloc_heap_new (W'.alloc (.cells #[.int .i64 (xs i).k,.string ⟨(xs i).t.toArray⟩,.int .i64 (xs i).n,.slice (xs i).p (xs i).len (xs i).cap] 24)) (.cells #[.int .i64 (xs i).k,.string ⟨(xs i).t.toArray⟩,.int .i64 (xs i).n,.slice (xs i).p (xs i).len (xs i).cap] 24)
    rwa [World.size_alloc] at this
   have hz2 : ((W'.alloc (.cells #[.int .i64 (xs i).k,.string ⟨(xs i).t.toArray⟩,.int .i64 (xs i).n,.slice (xs i).p (xs i).len (xs i).cap] 24)).alloc (.cells #[.int .i64 (xs i).k,.string ⟨(xs i).t.toArray⟩,.int .i64 (xs i).n,.slice (xs i).p (xs i).len (xs i).cap] 24)).heap.size = W'.heap.size + 2 := by simp
   generalize (W'.alloc (.cells #[.int .i64 (xs i).k,.string ⟨(xs i).t.toArray⟩,.int .i64 (xs i).n,.slice (xs i).p (xs i).len (xs i).cap] 24)).alloc (.cells #[.int .i64 (xs i).k,.string ⟨(xs i).t.toArray⟩,.int .i64 (xs i).n,.slice (xs i).p (xs i).len (xs i).cap] 24) = W2 at hb2 hs2 hx2 hz2 ⊢
   have hBW' : B < W'.heap.size := (Array.getElem?_eq_some_iff.1 hsW).1
   have hwW' := hbW.size
   refine range_adds hro hd (gf := 103) (lb := #[.pointer (some ⟨W'.heap.size + 1,0,none⟩)]) rfl (hF _) (enters_of Tryz.func103 (by kernel_rfl) rfl) rfl (ks := kindsF q) hs2 hF ?seq ?rnd ?don
   case seq =>
    intro W hbW2
    exact ih q (List.mem_of_getElem? hq) (n - 1) (W'.heap.size + 1) W (xs i) (by omega) (s3 q (List.mem_of_getElem? hq)) ((hbW2.block _ (by omega) (by omega)).trans hx2) (hqx.but (hb2.trans hbW2))
   case rnd =>
    intro n' l' W x m' r hl hrec hbW2 hsW2
    have hbw := (hbW.trans hb2).trans hbW2
    have hyW3 := (hb2.trans hbW2).cell hne hyW
    obtain ⟨xk,xt,xn,xp,xlen,xcap⟩ := x
    dsimp only [PartV.agg]
    gi_wp2
    refine ⟨(But.refl _ _).alloc _,fun W3 hW3 => ?_⟩
    have hl'lt := (Array.getElem?_eq_some_iff.1 hrec).1
    have hc3 : But B W2 W3 := by
     rw [hW3]
     exact (hbW2.alloc _).putObj hl _
    have hbW3 : But B w W3 := (hbW.trans hb2).trans hc3
    have hsW3 : SumAt W3 B m' := by
     rw [hW3]
     exact (World.putObj_heap_other (by omega)).trans (hsW2.alloc _)
    have hyW4 := (hb2.trans hc3).cell hne hyW
    have hbx : W3.heap[W.heap.size]? = some (.cells #[.int .i64 xk,.string ⟨xt.toArray⟩,.int .i64 xn,.slice xp xlen xcap] 24) := by
     rw [hW3]
     exact (World.putObj_heap_other (by omega)).trans (World.alloc_heap_new _ _)
    have f0 : W3.cell? ⟨W.heap.size,0,none⟩ = some (.int .i64 xk) := by simp [World.cell?,hbx]
    have f1 : W3.cell? ⟨W.heap.size,1,none⟩ = some (.string ⟨xt.toArray⟩) := by simp [World.cell?,hbx]
    have f2 : W3.cell? ⟨W.heap.size,2,none⟩ = some (.int .i64 xn) := by simp [World.cell?,hbx]
    have f3 : W3.cell? ⟨W.heap.size,3,none⟩ = some (.slice xp xlen xcap) := by simp [World.cell?,hbx]
    obtain ⟨fn,tmps,assign,body,hy,hR⟩ := hY (n' - 1) W3 ⟨xk,xt,xn,xp,xlen,xcap⟩ m' hbW3 hsW3
    dsimp only [PartV.agg] at hy
    clear hW3 hbx
    gi_wp2
    refine hR.mono ?_
    rintro e W4 ⟨rfl,hb4,hs4⟩
    gi_wp2
   case don =>
    intro W hbW2 hsW2 hk hlt2
    gi_wp2
    have hbw := (hbW.trans hb2).trans hbW2
    refine ⟨⟨i + 1,_,_,_,_,_,_,_,_,_,_,_,_,_,W2.heap.size :: ms,rfl,hlt,hbw,?_,(hb2.trans hbW2).cell hne hyW,?_,?_⟩,?_⟩
    ·rw [kinds_take hq,List.foldl_append]
     exact hsW2
    ·refine List.nodup_cons.2 ⟨fun h => ?_,hnd⟩
     have := (Array.getElem?_eq_some_iff.1 (hms _ h).2).1
     omega
    ·intro D hD
     rcases List.mem_cons.1 hD with rfl | hD
     ·exact ⟨by omega,hk⟩
     ·obtain ⟨h1,h2⟩ := hms D hD
      have h3 := (Array.getElem?_eq_some_iff.1 h2).1
      exact ⟨h1,((hb2.trans hbW2).block D h3 (by omega)).trans h2⟩
    ·show l.length - ((i : Int) + 1).toNat < l.length - (i : Int).toNat
     omega
  ·obtain rfl : i = l.length := by omega
   gi_wp2
   rw [List.take_length] at hsW
   exact leave_marks rfl hBlt ms W' hnd hms hbW hsW
end Go.Proofs

end

section
namespace Go.Proofs
open Go.RowKit Go.Shelf Qv
theorem rep_int {imm : Nat → Nat → Prop} {w : World} {v : Value} {n : Int} (h : Rep imm w v (.int .i64 n)) : v = .int .i64 n := by
 cases h; rfl
theorem rep_str {imm : Nat → Nat → Prop} {w : World} {v : Value} {s : Bytes} (h : Rep imm w v (.str s)) : v = .string ⟨s.toArray⟩ := by
 cases h; rfl
theorem encQyL_get {l : List Qy} {i : Nat} {q : Qy} (h : l[i]? = some q) : (encQyL l)[i]? = some (encQy q) := by
 rw [encQyL_map,List.getElem?_map,h]; rfl
theorem rep_qat {imm : Nat → Nat → Prop} {w : World} {B : Nat} (hB : ∀ b o,imm b o → b ≠ B) (q : Qy) : ∀ v,Rep imm w v (.agg (encQy q)) → ∃ x : PartV,v = x.agg ∧ x.k = q.kind ∧ QAt B w x q := by
 refine Qy.ind (P := fun q => ∀ v,Rep imm w v (.agg (encQy q)) → ∃ x : PartV,v = x.agg ∧ x.k = q.kind ∧ QAt B w x q) ?_ q
 intro k t n l ih v hv
 have he : encQy (.mk k t n l) = [.int .i64 k,.str t,.int .i64 n,.sl (encQyL l)] := rfl
 rw [he] at hv
 generalize hxs : encQyL l = rows at hv
 cases hv with
 | agg cs _ hlen hone hrep =>
 match cs,hlen with
 | [a,b,c,d],_ =>
 have ra := rep_int (hrep 0 _ _ rfl rfl)
 have rb := rep_str (hrep 1 _ _ rfl rfl)
 have rc := rep_int (hrep 2 _ _ rfl rfl)
 have rd := hrep 3 _ _ rfl rfl
 subst ra; subst rb; subst rc
 cases rd with
 | sl0 p cap =>
   have hl : l = [] := by
    cases l with
    | nil => rfl
    | cons x l => cases hxs
   subst hl
   exact ⟨⟨k,t,n,p,0,cap⟩,rfl,rfl,.mk k t n [] p cap 0 0 (fun _ => ⟨0,[],0,none,0,0⟩) (fun i q h => by cases h) (fun i q h => by cases h)⟩
 | sl b off cap esz _ cell h1 h2 h3 h4 h5 h6 =>
   subst hxs
   have hesz : ∀ (i : Nat) (q : Qy),l[i]? = some q → esz = 4 := fun i q hq => by
    have := h1 i _ (encQyL_get hq)
    rw [encQy_len] at this
    exact this.symm
   have key : ∀ i : Nat,∃ x : PartV,∀ q,l[i]? = some q → (.agg #[cell i 0,cell i 1,cell i 2,cell i 3] : Value) = x.agg ∧ QAt B w x q := fun i => by
    cases hq : l[i]? with
    | none => exact ⟨⟨0,[],0,none,0,0⟩,fun q h => by cases h⟩
    | some q =>
      have hrow := encQyL_get hq
      have hr : Rep imm w (.agg #[cell i 0,cell i 1,cell i 2,cell i 3]) (.agg (encQy q)) := by
       obtain ⟨k',t',n',l'⟩ := q
       refine .agg [cell i 0,cell i 1,cell i 2,cell i 3] _ rfl (fun y hy => ?_) (fun j c y hc hy => ?_)
       ·obtain ⟨j,hj⟩ := List.mem_iff_getElem?.1 hy
        exact h2 i _ j y hrow hj
       ·have h7 := h5 i _ j y hrow hy
        match j,hc with
        | 0,hc => cases hc; exact h7
        | 1,hc => cases hc; exact h7
        | 2,hc => cases hc; exact h7
        | 3,hc => cases hc; exact h7
      obtain ⟨x,e1,-,e2⟩ := ih q (List.mem_of_getElem? hq) _ hr
      exact ⟨x,fun q' h => by cases h; exact ⟨e1,e2⟩⟩
   obtain ⟨xs,hxs⟩ := Classical.axiomOfChoice key
   have hlen : (encQyL l).length = l.length := encQyL_len l
   refine ⟨⟨k,t,n,some ⟨b,off,none⟩,l.length,cap⟩,by rw [hlen]; rfl,rfl,.mk k t n l (some ⟨b,off,none⟩) cap b off xs (fun i q h => (hxs i q h).2) (fun i q h => ?_)⟩
   have hrow := encQyL_get h
   have he := (hxs i q h).1
   have h4' := hesz i q h
   subst h4'
   obtain ⟨k',t',n',l'⟩ := q
   have g0 := h3 i _ 0 _ hrow rfl
   have g1 := h3 i _ 1 _ hrow rfl
   have g2 := h3 i _ 2 _ hrow rfl
   have g3 := h3 i _ 3 _ hrow rfl
   have hi := hB _ _ (h4 i _ 0 _ hrow rfl)
   have hc : [cell i 0,cell i 1,cell i 2,cell i 3] = [.int .i64 (xs i).k,.string ⟨(xs i).t.toArray⟩,.int .i64 (xs i).n,.slice (xs i).p (xs i).len (xs i).cap] := by
    have := congrArg (fun v : Value => match v with | .agg a => a.toList | _ => []) he
    exact this
   injection hc with c0 hc
   injection hc with c1 hc
   injection hc with c2 hc
   injection hc with c3 hc
   rw [c0] at g0; rw [c1] at g1; rw [c2] at g2; rw [c3] at g3
   exact ⟨rfl,hi,g0,g1,g2,g3⟩
end Go.Proofs

end

section
namespace Go.Proofs
open Go.RowKit Go.Shelf Qv
attribute [local go_sem] Oper.semAt_some
theorem callsIn_of {f : FuncId} {x : AV} {y : AV} (h : CallsTo C f [x] (fun r => r = .val y)) {n : Nat} {imm : Nat → Nat → Prop} {w : World} {v : Value} (hJ : C.J w) (hn : C.nglob ≤ w.heap.size) (hi : ∀ b o,imm b o → b < w.heap.size) (hr : Rep imm w v x) :
 CallsIn Fence.wide n Tryz.prog f #[v] w fun e w' => ∃ u,e = .returned u ∧ Rep (immOr imm w.heap.size) w' u y ∧ Below w.heap.size w w' := by
 refine (callsIn_wide.2 (h.2 imm w [v] hJ hn hi rfl ?_)).mono ?_
 ·intro i a b ha hb
  match i,ha,hb with
  | 0,ha,hb => cases ha; cases hb; exact hr
 ·rintro e w' ⟨u,r,rfl,rfl,h1,h2⟩
  exact ⟨u,rfl,h1,h2⟩
theorem callsIn_int {f : FuncId} {x : AV} {m : Int} (h : CallsTo C f [x] (fun r => r = .val (.int .i64 m))) {n : Nat} {imm : Nat → Nat → Prop} {w : World} {v : Value} (hJ : C.J w) (hn : C.nglob ≤ w.heap.size) (hi : ∀ b o,imm b o → b < w.heap.size) (hr : Rep imm w v x) :
 CallsIn Fence.wide n Tryz.prog f #[v] w fun e w' => e = .returned (.int .i64 m) ∧ Below w.heap.size w w' := by
 refine (callsIn_of h hJ hn hi hr).mono ?_
 rintro e w' ⟨u,rfl,h1,h2⟩
 exact ⟨by rw [rep_int h1],h2⟩
theorem But.of_below {B : Nat} {X Y : World} (h : Below X.heap.size X Y) : But B X Y := ⟨h.os,h.tape,h.output,h.size,fun k hk _ => h.block k hk⟩
theorem But.setCell {B : Nat} {X Y : World} (h : But B X Y) (v : Value) : But B X (Y.setCell ⟨B,0,none⟩ v) :=
 have g := grownBy_setCell' Y B v
 h.trans ⟨g.os,g.tape,g.output,g.size,fun k hk hb => g.block k hk (fun e => hb (by cases e; rfl))⟩
theorem accF_eq {m : Nat} {k : Int} (h : m + weightF k ≤ 1099511627776) : accF m k = ((m + weightF k : Nat) : Int) := by
 unfold accF
 rw [Qv.wrap64 (by omega) (by omega)]
 omega
theorem kinds_fold (q : Qy) : ∀ m : Nat,m + costF q ≤ 1099511627776 → (kindsF q).foldl accF (m : Int) = ((m + costF q : Nat) : Int) := by
 refine Qy.ind (P := fun q => ∀ m : Nat,m + costF q ≤ 1099511627776 → (kindsF q).foldl accF (m : Int) = ((m + costF q : Nat) : Int)) ?_ q
 intro k t n l ih m hm
 have hc : costF (.mk k t n l) = costL l + weightF k := rfl
 rw [hc] at hm ⊢
 have key : ∀ l : List Qy,(∀ x,x ∈ l → ∀ m : Nat,m + costF x ≤ 1099511627776 → (kindsF x).foldl accF (m : Int) = ((m + costF x : Nat) : Int)) → ∀ m : Nat,m + costL l ≤ 1099511627776 → (kindsL l).foldl accF (m : Int) = ((m + costL l : Nat) : Int) := by
  intro l
  induction l with
  | nil => intro _ m _; rfl
  | cons x l i2 =>
    intro h m hm
    have hx : costL (x :: l) = costF x + costL l := rfl
    rw [hx] at hm ⊢
    show (kindsF x ++ kindsL l).foldl accF (m : Int) = _
    rw [List.foldl_append,h x (by simp) m (by omega),i2 (fun y hy => h y (by simp [hy])) _ (by omega)]
    congr 1
    omega
 show (kindsL l).foldl accF (accF m k) = _
 rw [accF_eq (by omega),key l ih _ (by omega)]
 congr 1
 omega
theorem cell4 {W : World} {b : Nat} {a0 a1 a2 a3 : Value} {T : TypeId} (h : W.heap[b]? = some (.cells #[a0,a1,a2,a3] T)) :
 W.cell? ⟨b,0,none⟩ = some a0 ∧ W.cell? ⟨b,1,none⟩ = some a1 ∧ W.cell? ⟨b,2,none⟩ = some a2 ∧ W.cell? ⟨b,3,none⟩ = some a3 := by
 simp [World.cell?,h]
set_option maxRecDepth 100000 in
set_option maxHeartbeats 2000000 in
theorem costC_ok (q : Qy) (hs : szQ q) (hp : checkQ globB q = 0 → q.parts ≤ 200) : CallsTo C 27 [.agg (encQy q)] (fun r => r = .val (.int .i64 (costQ q))) := by
 refine ⟨⟨_,Tryz.func27,rfl,rfl⟩,fun imm w vs hJ hn hi hl hr => ?_⟩
 match vs,hl with
 | [v],_ =>
 have hr := hr 0 v _ rfl rfl
 have hqx := fun B (hB : w.heap.size ≤ B) => rep_qat (B := B) (fun b o h => by have := hi b o h; omega) q v hr
 obtain ⟨⟨k,t,n0,p,len,cap⟩,rfl,hk,-⟩ := hqx w.heap.size (Nat.le_refl _)
 have hqx : ∀ B,w.heap.size ≤ B → QAt B w ⟨k,t,n0,p,len,cap⟩ q := fun B hB => by
  obtain ⟨⟨k',t',n',p',len',cap'⟩,e,-,h⟩ := hqx B hB
  have e : (Value.agg #[.int .i64 k,.string ⟨t.toArray⟩,.int .i64 n0,.slice p len cap]) = .agg #[.int .i64 k',.string ⟨t'.toArray⟩,.int .i64 n',.slice p' len' cap'] := e
  have e2 := congrArg (fun v : Value => match v with | .agg a => a.toList | _ => []) e
  have e2 : [Value.int .i64 k,.string ⟨t.toArray⟩,.int .i64 n0,.slice p len cap] = [.int .i64 k',.string ⟨t'.toArray⟩,.int .i64 n',.slice p' len' cap'] := e2
  injection e2 with e0 e2; injection e2 with e1 e2; injection e2 with e3 e2; injection e2 with e4 e2
  cases e0; cases e3; cases e4
  have : t = t' := by
   injection e1 with e1
   injection e1 with e1
   simpa using congrArg Array.toList e1
  subst this
  exact h
 refine (callsIn_wide (n := 0)).1 ?_
 dsimp only [PartV.agg] at hr ⊢
 change CallsIn Fence.wide 0 Tryz.prog 27 _ w _
 refine callsIn_of_wp_marks Tryz.func27 rfl trivial ?_ rfl
 have hnt : Tryz.f27.ntmps = 17 := rfl
 simp only [hnt,List.size_toArray,List.length_cons,List.length_nil,Nat.reduceAdd,Nat.reduceSub,Array.replicate_succ,Array.replicate_zero,List.push_toArray,List.append_toArray,List.nil_append,List.cons_append]
 have hJ1 : C.J (w.alloc (.cells #[.int .i64 k,.string ⟨t.toArray⟩,.int .i64 n0,.slice p len cap] 24)) := C.stable w _ (fun k hk => Below.heap_alloc w _ k (Nat.lt_of_lt_of_le hk hn)) hJ
 have hbw : Below w.heap.size w (w.alloc (.cells #[.int .i64 k,.string ⟨t.toArray⟩,.int .i64 n0,.slice p len cap] 24)) := (Below.refl _ w).alloc (Nat.le_refl _) _
 have hr1 : Rep imm (w.alloc (.cells #[.int .i64 k,.string ⟨t.toArray⟩,.int .i64 n0,.slice p len cap] 24)) (.agg #[.int .i64 k,.string ⟨t.toArray⟩,.int .i64 n0,.slice p len cap]) (.agg (encQy q)) :=
  hr.keep (fun b o h => h) (fun b o c h hc => (hbw.cell (p := ⟨b,o,none⟩) (hi b o h)).trans hc) (fun b es k h hb => (hbw.block b (hi b 0 h)).trans hb)
 have hcall := callsIn_int (n := 0) (check_ok q hs) hJ1 (by simp; omega) (fun b o h => by have := hi b o h; simp; omega) hr1
 by_cases hck : checkQ globB q = 0
 ·have hb1c : ∀ w1,Below (w.alloc (.cells #[.int .i64 k,.string ⟨t.toArray⟩,.int .i64 n0,.slice p len cap] 24)).heap.size (w.alloc (.cells #[.int .i64 k,.string ⟨t.toArray⟩,.int .i64 n0,.slice p len cap] 24)) w1 →
   (w1.cell? ⟨w.heap.size,0,none⟩ = some (.int .i64 k) ∧ w1.cell? ⟨w.heap.size,1,none⟩ = some (.string ⟨t.toArray⟩) ∧ w1.cell? ⟨w.heap.size,2,none⟩ = some (.int .i64 n0) ∧ w1.cell? ⟨w.heap.size,3,none⟩ = some (.slice p len cap)) ∧ w.heap.size < w1.heap.size ∧ Below w.heap.size w w1 := fun w1 h =>
   ⟨cell4 ((h.block _ (by simp)).trans (World.alloc_heap_new w _)),by have := h.size; simp at this; omega,hbw.trans (h.mono (by simp))⟩
  gi_wp2_with (first
   | (refine ⟨trivial,rfl,?_⟩; refine hcall.mono ?_; rintro e w1 ⟨rfl,hb1⟩; obtain ⟨⟨c0,c1,c2,c3⟩,hlt1,hbw1⟩ := hb1c w1 hb1)
   | (refine ⟨trivial,rfl,?_⟩; refine (partsQ_in Fence.wide _ trivial rfl _ _ _ _ _).mono ?_; rintro e w2 ⟨rfl,rfl⟩))
  subst hk
  have hbw2 : Below w.heap.size w ((w1.alloc (.cells #[.int .i64 0] 3)).alloc (.cells #[.int .i64 q.kind,.string ⟨t.toArray⟩,.int .i64 n0,.slice p len cap] 24)) := (hbw1.alloc (by omega) _).alloc (by simp; omega) _
  have hs2 : SumAt ((w1.alloc (.cells #[.int .i64 0] 3)).alloc (.cells #[.int .i64 q.kind,.string ⟨t.toArray⟩,.int .i64 n0,.slice p len cap] 24)) w1.heap.size 0 := SumAt.alloc (World.alloc_heap_new w1 _) _
  have hx2 : ((w1.alloc (.cells #[.int .i64 0] 3)).alloc (.cells #[.int .i64 q.kind,.string ⟨t.toArray⟩,.int .i64 n0,.slice p len cap] 24)).heap[w1.heap.size + 1]? = some (.cells #[.int .i64 q.kind,.string ⟨t.toArray⟩,.int .i64 n0,.slice p len cap] 24) := by
   have := World.alloc_heap_new (w1.alloc (.cells #[.int .i64 0] 3)) (.cells #[.int .i64 q.kind,.string ⟨t.toArray⟩,.int .i64 n0,.slice p len cap] 24)
   rwa [World.size_alloc] at this
  have hz2 : ((w1.alloc (.cells #[.int .i64 0] 3)).alloc (.cells #[.int .i64 q.kind,.string ⟨t.toArray⟩,.int .i64 n0,.slice p len cap] 24)).heap.size = w1.heap.size + 2 := by simp
  generalize (w1.alloc (.cells #[.int .i64 0] 3)).alloc (.cells #[.int .i64 q.kind,.string ⟨t.toArray⟩,.int .i64 n0,.slice p len cap] 24) = W2 at hbw2 hs2 hx2 hz2 ⊢
  refine range_adds rfl rfl (gf := 103) (lb := #[.pointer (some ⟨w1.heap.size + 1,0,none⟩)]) rfl trivial (enters_of Tryz.func103 (by kernel_rfl) rfl) rfl (ks := kindsF q) hs2 (fun _ => trivial) ?seq ?rnd ?don
  case seq =>
   intro W hbW2
   exact parts_adds Fence.wide rfl (fun _ => trivial) rfl w1.heap.size q _ (w1.heap.size + 1) W ⟨q.kind,t,n0,p,len,cap⟩ (by omega) hs ((hbW2.block _ (by omega) (by omega)).trans hx2) ((hqx _ (by omega)).but ((But.of_below hbw2).trans hbW2))
  case rnd =>
   intro n' l' W x m' r hl hrec hbW2 hsW2
   obtain ⟨xk,xt,xn,xp,xlen,xcap⟩ := x
   dsimp only [PartV.agg]
   gi_wp2
   refine ⟨(But.refl _ _).alloc _,fun W3 hW3 => ?_⟩
   have hl'lt := (Array.getElem?_eq_some_iff.1 hrec).1
   have hsz3 := hbW2.size
   have hc3 : But w1.heap.size W2 W3 := by
    rw [hW3]
    exact (hbW2.alloc _).putObj hl _
   have hs3 : SumAt W3 w1.heap.size m' := by
    rw [hW3]
    exact (World.putObj_heap_other (by omega)).trans (hsW2.alloc _)
   have hbx : W3.heap[W.heap.size]? = some (.cells #[.int .i64 xk,.string ⟨xt.toArray⟩,.int .i64 xn,.slice xp xlen xcap] 24) := by
    rw [hW3]
    exact (World.putObj_heap_other (by omega)).trans (World.alloc_heap_new _ _)
   have hb3 : But w1.heap.size w W3 := (But.of_below hbw2).trans hc3
   have f0 := (cell4 hbx).1
   have fS : W3.cell? ⟨w1.heap.size,0,none⟩ = some (.int .i64 m') := cell_of_heap hs3
   have fF : W3.frozen? ⟨w1.heap.size,0,none⟩ = false := by simp [World.frozen?,show W3.heap[w1.heap.size]? = _ from hs3]
   have hJ3 : C.J W3 := C.stable w _ (fun k hk => hb3.block k (by omega) (by omega)) hJ
   have hn3 : C.nglob ≤ W3.heap.size := by have := hb3.size; omega
   have hmix : Tryz.prog.follows .mixedOrders = true := C.mixed
   clear hW3
   have hJ4 : C.J W3.drew := C.stable W3 _ (fun k hk => rfl) hJ3
   have hw := callsIn_int (n := n' - 1) (imm := fun _ _ => False) (w := W3.drew) (weightC_ok xk) hJ4 hn3 (fun _ _ h => h.elim) (.int _ _)
   have hB3 := (Array.getElem?_eq_some_iff.1 hs3).1
   have h4 : ∀ w4,Below W3.drew.heap.size W3.drew w4 → w4.cell? ⟨w1.heap.size,0,none⟩ = some (.int .i64 m') ∧ w4.frozen? ⟨w1.heap.size,0,none⟩ = false ∧ SumAt w4 w1.heap.size m' ∧ But w1.heap.size W3 w4 := fun w4 h => by
    have hS : SumAt w4 w1.heap.size m' := (h.block _ hB3).trans hs3
    exact ⟨cell_of_heap hS,by simp [World.frozen?,show w4.heap[w1.heap.size]? = _ from hS],hS,⟨h.os,h.tape,h.output,h.size,fun k hk _ => h.block k hk⟩⟩
   gi_wp2
   gi_region_with_o (refine ⟨trivial,fun h => (by cases h),?_⟩; refine (CallsIn.inRound l' hw).mono ?_; rintro e w4 ⟨rfl,hb4⟩; obtain ⟨g1,g2,g3,g4⟩ := h4 w4 hb4)
   all_goals gi_wp2
   all_goals exact ⟨g4.setCell _,Boxed.set _ g3⟩
  case don =>
   intro W hbW2 hsW2 hK hlt2
   have cS : W.cell? ⟨w1.heap.size,0,none⟩ = some (.int .i64 ((kindsF q).foldl accF 0)) := cell_of_heap hsW2
   gi_wp2
   refine ⟨by simp,.inl ⟨_,_,rfl,run_takeDeferred hK,?_⟩⟩
   refine ⟨_,results_tmp rfl _ _ _,_,_,rfl,rfl,?_,?_⟩
   ·have : (kindsF q).foldl accF 0 = costQ q := by
     unfold costQ
     rw [if_neg (by rw [hck]; simp)]
     have h1 := cost_le q
     have h2 := hp hck
     have := kinds_fold q 0 (by omega)
     simpa using this
    rw [this]
    exact .int _ _
   ·have hb5 := (But.of_below hbw2).trans (hbW2.putObj (Nat.le_refl W2.heap.size) (.deferred none))
    exact ⟨hb5.os,hb5.tape,hb5.output,hb5.size,fun k hk => hb5.block k hk (by omega)⟩
 ·gi_wp2_with (refine ⟨trivial,rfl,?_⟩; refine hcall.mono ?_; rintro e w1 ⟨rfl,hb1⟩)
  refine ⟨_,results_tmp rfl _ _ _,_,_,rfl,rfl,?_,?_⟩
  ·have : costQ q = 0 := if_pos hck
   rw [this]
   exact .int _ _
  ·exact hbw.trans (hb1.mono (by simp))
end Go.Proofs

end
