/- Several texts in one: Rules for structs of many cells that are loaded and stored whole and what follows. No condition. -/
import Derived.Test.YtpoefbbfhebakaaGreatDoorHv4
import Derived.Test.YtpoefbbfhebakaaGreatDoorH1
set_option linter.unusedVariables false
set_option linter.unusedSimpArgs false

section
open Go Go.RowKit
namespace Qv
theorem takeN_all : ∀ (cells : List FV),takeN cells.length cells = some cells
 | [] => rfl
 | x :: l => by
   simp only [List.length_cons,takeN,takeN_all l]
theorem setN_at {α : Type} (b y : α) (B : List α) : ∀ (A : List α),setN (A ++ b :: B) A.length y = some (A ++ y :: B)
 | [] => rfl
 | a :: A => by
   simp only [List.cons_append,List.length_cons,setN,setN_at b y B A]
theorem setRange_at {α : Type} : ∀ (ys A B : List α),B.length = ys.length → setRange (A ++ B) A.length ys = some (A ++ ys)
 | [],A,B,h => by
   have : B = [] := List.length_eq_zero_iff.1 h
   subst this
   simp [setRange]
 | y :: ys,A,[],h => by simp at h
 | y :: ys,A,b :: B,h => by
   simp only [setRange,setN_at]
   have := setRange_at ys (A ++ [y]) B (by simpa using h)
   simpa using this
theorem setRange_all {α : Type} (xs zs : List α) (h : xs.length = zs.length) : setRange xs 0 zs = some zs := by
 have := setRange_at zs [] xs h
 simpa using this
theorem evLoad_whole {C : Ctx} {objs : List (Nat × List FV)} {t : TypeId} {ob : Nat} {cells : List FV} {K : FV → Prop} {i : TInfo} (ht : tabGet C.tab t = some i) (hi : i.shape.isAgg = true) (hc : Qv.getObj objs ob = some cells) (hl : cells.length = i.size) (h : K (.agg cells)) :
 evLoad C objs t (.ptr ob 0) K := by
 unfold evLoad
 simp only [ht,hc,hi,dropN]
 rw [← hl,takeN_all]
 exact h
theorem evOps_store {C : Ctx} {call : CallH} {Y : Yld} {ops : Array Oper} {rest : List Oper} {K : ASt → Prop} {S : ASt} {o : Oper} (t : TypeId) (a x : Operand) (ob : Nat) (cells old : List FV) {i : TInfo} (hg : o.guard = none) (hop : o.op = .store t a x) (ht : tabGet C.tab t = some i)
 (ha : S.val a = .ptr ob 0) (hx : S.val x = .agg cells) (hc : Qv.getObj S.objs ob = some old) (hl : cells.length = i.size) (hl2 : old.length = i.size) (h1 : allOne cells = true) (h : evOps C call Y ops rest K ((S.setO ob cells).put o.dst (.p (.tup [])))) : evOps C call Y ops (o :: rest) K S := by
 unfold evOps
 simp only [hg]
 unfold evOp
 simp only [hop,ht,ha,hx,hc,FV.cells,hl,Nat.beq_refl,h1]
 rw [setRange_all old cells (by omega)]
 simp only [forceL_eq]
 exact h
theorem evRegion_load {C : Ctx} {call : CallH} {Y : Yld} {ops : Array Oper} {K : ASt → Prop} {S : ASt} (o : Oper) (rest : List Oper) (t : TypeId) (a : Operand) (ob : Nat) (cells : List FV) {i : TInfo} (hops : ops.toList = o :: rest) (hgd : guarded ops.toList = false) (hg : o.guard = none) (hop : o.op = .load t a) (ht : tabGet C.tab t = some i) (hi : i.shape.isAgg = true)
 (ha : S.val a = .ptr ob 0) (hc : Qv.getObj S.objs ob = some cells) (hl : cells.length = i.size) (h : evOps C call Y ops rest K (S.put o.dst (.agg cells))) : evRegion C call Y ops false K S := by
 unfold evRegion
 simp only [hgd]
 rw [hops]
 unfold evOps
 simp only [hg]
 unfold evOp
 simp only [hop]
 unfold evVal
 simp only [ha]
 exact evLoad_whole ht hi hc hl h
theorem evRegion_ops {C : Ctx} {call : CallH} {Y : Yld} {ops : Array Oper} {K : ASt → Prop} {S : ASt} (l : List Oper) (hops : ops.toList = l) (hgd : guarded ops.toList = false) (h : evOps C call Y ops l K S) : evRegion C call Y ops false K S := by
 unfold evRegion
 simp only [hgd]
 rw [hops]
 exact h
theorem evOps_step {C : Ctx} {call : CallH} {Y : Yld} {ops : Array Oper} {rest : List Oper} {K : ASt → Prop} {S : ASt} {o : Oper} (v : FV) (hg : o.guard = none) (hv : ∀ K' : ASt → Prop,K' (S.put o.dst v) → evOp C call Y o K' S) (h : evOps C call Y ops rest K (S.put o.dst v)) :
 evOps C call Y ops (o :: rest) K S := by
 unfold evOps
 simp only [hg]
 exact hv _ h
theorem evOps_alloc {C : Ctx} {call : CallH} {Y : Yld} {ops : Array Oper} {rest : List Oper} {K : ASt → Prop} {S : ASt} {o : Oper} (t : TypeId) (d nm : Nat) (cells : List FV) {i : TInfo} (hg : o.guard = none) (hd : o.dst = some d) (hop : o.op = .alloc t) (ht : tabGet C.tab t = some i) (hb : Nat.beq t C.bT = false)
 (hnm : S.off + d = nm) (h9 : Nat.beq nm 999999 = false) (hk : FV.killL nm (i.zero.map FV.ofVal1) = cells) (h : evOps C call Y ops rest K { (S.kill nm).put (some d) (.ptr nm 0) with objs := (nm,cells) :: delObj nm S.objs }) : evOps C call Y ops (o :: rest) K S := by
 unfold evOps
 simp only [hg]
 unfold evOp
 simp only [hop,hd,ht,hb,forceL_eq,newObjK]
 rw [withNmL_eq,hnm]
 refine ⟨h9,?_⟩
 rw [hk]
 exact h
theorem gotK_val {S : ASt} {dst : Option Nat} {x : AV} {K : ASt → Prop} (h : K (S.put dst (.p x))) : gotK S dst (.val x) K := h
theorem evOps_loadW {C : Ctx} {call : CallH} {Y : Yld} {ops : Array Oper} {rest : List Oper} {K : ASt → Prop} {S : ASt} {o : Oper} (t : TypeId) (a : Operand) (ob : Nat) (cells : List FV) {i : TInfo} (hg : o.guard = none) (hop : o.op = .load t a) (ht : tabGet C.tab t = some i) (hi : i.shape.isAgg = true)
 (ha : S.val a = .ptr ob 0) (hc : Qv.getObj S.objs ob = some cells) (hl : cells.length = i.size) (h : evOps C call Y ops rest K (S.put o.dst (.agg cells))) : evOps C call Y ops (o :: rest) K S := by
 unfold evOps
 simp only [hg]
 unfold evOp
 simp only [hop]
 unfold evVal
 simp only [ha]
 exact evLoad_whole ht hi hc hl h
theorem evOps_storeP {C : Ctx} {call : CallH} {Y : Yld} {ops : Array Oper} {rest : List Oper} {K : ASt → Prop} {S : ASt} {o : Oper} (t : TypeId) (a x : Operand) (ob off : Nat) (cells old new : List FV) {i : TInfo} (hg : o.guard = none) (hop : o.op = .store t a x) (ht : tabGet C.tab t = some i)
 (ha : S.val a = .ptr ob off) (hx : (S.val x).cells = cells) (hc : Qv.getObj S.objs ob = some old) (hl : cells.length = i.size) (h1 : allOne cells = true) (hs : setRange old off cells = some new) (h : evOps C call Y ops rest K ((S.setO ob new).put o.dst (.p (.tup [])))) : evOps C call Y ops (o :: rest) K S := by
 unfold evOps
 simp only [hg]
 unfold evOp
 simp only [hop,ht,ha,hx,hc,hl,Nat.beq_refl,h1,hs,forceL_eq]
 exact h
theorem evOps_slice1 {C : Ctx} {call : CallH} {Y : Yld} {ops : Array Oper} {rest : List Oper} {K : ASt → Prop} {S : ASt} {o : Oper} (t e : TypeId) (x : Operand) (d nm : Nat) (ys : List AV) {a1 a2 : Nat} {a3 : List Value} {j : TInfo} (hg : o.guard = none) (hd : o.dst = some d) (hop : o.op = .buildSlice t 1 #[(0,x)])
 (ht : tabGet C.tab t = some ⟨a1,a2,.slice e,a3⟩) (he : tabGet C.tab e = some j) (hopen : memN d C.ex.opens = false) (hnm : S.off + d = nm) (hx : (S.val x).cells = mapP ys) (hl : ys.length = j.size) (hz : j.zero.length = j.size) (hp : Nat.beq j.size 0 = false) (hle : Nat.ble j.size 1000000 = true)
 (h1 : allOne (mapP ys) = true) (hy : FV.toAVs (mapP ys) = some ys) (h : evOps C call Y ops rest K ((S.kill nm).put (some d) (.tip nm e j.size [ys]))) : evOps C call Y ops (o :: rest) K S := by
 unfold evOps
 simp only [hg]
 unfold evOp
 simp only [hop,hd,ht,hopen]
 unfold evBuildSlice
 have hml : (mapP ys).length = j.size := by rw [mapP_eq,List.length_map,hl]
 have hset : setRange (repl 1 (j.zero.map FV.ofVal1)) (0 * j.size) (mapP ys) = some (mapP ys) := by
  rw [Nat.zero_mul,show repl 1 (j.zero.map FV.ofVal1) = j.zero.map FV.ofVal1 from by simp [repl]]
  exact setRange_all _ _ (by rw [List.length_map,hz,hml])
 simp only [ht,he,Nat.one_mul,hle,placeElems,hp,hx,hml,Nat.beq_refl,h1,hset,hy]
 rw [withNm_eq,hnm]
 have hc : chunk j.size 1 ys = [ys] := by
  simp only [chunk]
  rw [← hl,List.take_length]
 rw [hc]
 exact h
theorem evReturn_cell {C : Ctx} {R : Ret → Prop} {S : ASt} (a : Nat) (t : TypeId) (u ob : Nat) (cells : List FV) (ys : List AV) (y : AV) {i : TInfo} (hf : C.ex.full = false) (ht : tabGet C.tab t = some i) (hi : i.shape.isAgg = true)
 (ha : S.get a = .ptr ob 0) (hc : Qv.getObj S.objs ob = some cells) (hl : cells.length = i.size) (hy : FV.toAVs cells = some ys) (h1 : ys.all AV.one = true) (hu : (S.get u).toAV = some y) (h : R (.val (.tup [.agg ys,y]))) : evReturn C [.cell a t,.tmp u] R S := by
 unfold evReturn
 simp only [hf]
 unfold evResults
 rw [ha]
 refine evLoad_whole ht hi hc hl ?_
 simp only [FV.toAV,hy,h1,evResults,hu]
 exact h
end Qv

end

section
open Go Go.Proofs Go.RowKit
namespace Qv
def ref1 : Bytes → UInt8 × Nat
 | [] => (0,0)
 | c :: r => if c = 92 then match r with
     | [] => (0,0)
     | d :: _ => (d,2)
   else (c,1)
def enc1R (p : UInt8 × Nat) : AV := .tup [.int .u8 p.1.toNat,.int .i64 p.2]
theorem refOne_ok (s : Bytes) (hs : s.length ≤ 2 ^ 30) : CallsTo C 210 [.str s] (fun r => r = .val (enc1R (ref1 s))) := by
 refine cTo' Tryz.func210 rfl rfl rfl ?_
 refine al_eq (fun h => ?_) (fun h => ?_)
 ·have : s = [] := h
  subst this
  exact rfl
 ·match s,h,hs with
  | [],h,_ => exact absurd rfl h
  | c :: r,_,hs =>
    refine ⟨by omega,c,rfl,?_⟩
    refine al_ne (fun hc => ?_) (fun hc => ?_)
    ·have hc' : c ≠ 92 := fun e => hc (by rw [e]; rfl)
     refine ⟨by omega,c,rfl,?_⟩
     simp only [ref1,if_neg hc']
     exact rfl
    ·have hc' : c = 92 := u8_eq hc
     refine al_dec (fun hl => ?_) (fun hl => ?_)
     ·have : r = [] := by
       have hl : ((c :: r).length : Int) < 2 := hl
       cases r with
       | nil => rfl
       | cons _ _ => simp only [List.length_cons] at hl; omega
      subst this
      simp only [ref1,if_pos hc']
      exact rfl
     ·match r,hl,hs with
      | [],hl,_ => exact absurd (show ((c :: ([] : Bytes)).length : Int) < 2 by simp) hl
      | d :: r,_,hs =>
        refine ⟨by omega,d,rfl,?_⟩
        simp only [ref1,if_pos hc']
        exact rfl
theorem ref1_plain (s : Bytes) (n : Nat) (hn : n ≤ s.length) : plainF s n = if (ref1 (s.drop n)).2 = 0 then (0,false,(plainF s n).2.2) else ((ref1 (s.drop n)).1,true,n + (ref1 (s.drop n)).2) := by
 cases hd : s.drop n with
 | nil =>
   have hl : s.length ≤ n := by
    have := congrArg List.length hd
    simp only [List.length_drop,List.length_nil] at this
    omega
   have h1 : s[n]? = none := List.getElem?_eq_none hl
   have hk : plainK s n = n := by simp [plainK,h1]
   rw [plainF_none hk (by omega)]
   rfl
 | cons c r =>
   have hg : ∀ i,(c :: r)[i]? = s[n + i]? := fun i => by rw [← hd,List.getElem?_drop]
   have h0 : s[n]? = some c := by have := hg 0; simpa using this.symm
   by_cases hc : c = 92
   ·have hk : plainK s n = n + 1 := by simp [plainK,h0,hc]
    cases r with
    | nil =>
      have h1 : s[n + 1]? = none := by have := hg 1; simpa using this.symm
      rw [plainF_none hk (by have := List.getElem?_eq_none_iff.1 h1; omega)]
      simp [ref1,hc]
    | cons d r =>
      have h1 : s[n + 1]? = some d := by have := hg 1; simpa using this.symm
      rw [plainF_some hk h1]
      simp [ref1,hc]
   ·have hk : plainK s n = n := by simp [plainK,h0,hc]
    rw [plainF_some hk h0]
    simp [ref1,hc]
end Qv

end

section
open Go Go.Proofs Go.RowKit
namespace Qv
theorem parts_one {c : UInt8} : ∀ {u : Bytes},(∀ b,b ∈ u → b ≠ c) → parts c u = [u]
 | [],_ => rfl
 | b :: u,h => by
   have h1 := parts_one (u := u) fun x hx => h x (List.mem_cons_of_mem _ hx)
   simp only [parts,if_neg (h b List.mem_cons_self),h1]
theorem parts_cut {c : UInt8} {v : Bytes} : ∀ {u : Bytes},(∀ b,b ∈ u → b ≠ c) → parts c (u ++ c :: v) = u :: parts c v
 | [],_ => by simp [parts]
 | b :: u,h => by
   have h1 := parts_cut (c := c) (v := v) (u := u) fun x hx => h x (List.mem_cons_of_mem _ hx)
   show parts c (b :: (u ++ c :: v)) = _
   simp only [parts,if_neg (h b List.mem_cons_self),h1]
def SpI (s : Bytes) (x : Nat × Nat × List Bytes) : Prop :=
 x.1 ≤ s.length + 1 ∧ x.2.1 ≤ x.1 ∧ x.2.2.length ≤ x.1 ∧ (x.1 ≤ s.length → x.2.2 ++ parts 47 (s.drop x.2.1) = parts 47 s ∧ ∀ i,x.2.1 ≤ i → i < x.1 → s[i]? ≠ some 47) ∧ (x.1 = s.length + 1 → x.2.2 = parts 47 s)
theorem seg_free {s : Bytes} {a k : Nat} (h : ∀ i,a ≤ i → i < k → s[i]? ≠ some 47) : ∀ b,b ∈ (s.take k).drop a → b ≠ 47 := by
 intro b hb e
 subst e
 obtain ⟨j,hj⟩ := List.getElem?_of_mem hb
 rw [List.getElem?_drop,List.getElem?_take] at hj
 split at hj
 ·rename_i h1
  exact h (a + j) (by omega) h1 hj
 ·cases hj
theorem refSplit_ok (s : Bytes) (hs : s.length ≤ 2 ^ 30) : CallsTo C 188 [.str s] (fun r => r = .val (encS (pathF s))) := by
 refine cTo' Tryz.func188 rfl rfl rfl ?_
 refine al_eq (fun h => ?_) (fun h => ?_)
 ·have : pathF s = [] := if_pos (show s = [] from h)
  rw [this]
  exact .inr rfl
 have hp : pathF s = parts 47 s := if_neg (show s ≠ [] from h)
 rw [hp]
 refine loopR 36 (fun x : Nat × Nat × List Bytes => [(0,.p (.str s)),(3,.tip 6 9 1 (x.2.2.map enc1)),(4,.p (.int .i64 x.2.1)),(5,.p (.int .i64 x.1))]) (fun _ => []) (SpI s) (fun x => s.length + 1 - x.1) (0,0,[])
  ⟨by show 0 ≤ _; omega,Nat.le_refl _,Nat.le_refl _,fun _ => ⟨rfl,fun i h1 h2 => absurd h2 (by show ¬ i < 0; omega)⟩,fun h => absurd h (by show ¬ 0 = _; omega)⟩ rfl ⟨wR,wR,wR,wR,trivial⟩ trivial ?_
 rintro ⟨k,a,out⟩ ⟨h1,h2,h3,h4,h5⟩
 have h1 : k ≤ s.length + 1 := h1
 have h2 : a ≤ k := h2
 have h3 : out.length ≤ k := h3
 have h4 : k ≤ s.length → out ++ parts 47 (s.drop a) = parts 47 s ∧ ∀ i,a ≤ i → i < k → s[i]? ≠ some 47 := h4
 have h5 : k = s.length + 1 → out = parts 47 s := h5
 have hw : IntKind.i64.wrap ((k : Int) + 1) = ((k + 1 : Nat) : Int) := by rw [wrap64 (by omega) (by omega)]; omega
 refine al_dec (fun hle => ?_) (fun hgt => ?_)
 ·have hle : k ≤ s.length := by
   have : (k : Int) ≤ (s.length : Int) := hle
   omega
  obtain ⟨h6,h7⟩ := h4 hle
  refine ⟨none,?_⟩
  have piece : ∀ (hx : out ++ [(s.take k).drop a] ++ (if k < s.length then parts 47 (s.drop (k + 1)) else []) = parts 47 s),SpI s (k + 1,k + 1,out ++ [(s.take k).drop a]) := fun hx => by
   refine ⟨by show k + 1 ≤ _; omega,Nat.le_refl _,by show (out ++ [_]).length ≤ k + 1; simp; omega,fun hq => ?_,fun hq => ?_⟩
   ·have hq : k + 1 ≤ s.length := hq
    rw [if_pos (by omega)] at hx
    exact ⟨hx,fun i h8 h9 => absurd h9 (by have h8 : k + 1 ≤ i := h8; show ¬ i < k + 1; omega)⟩
   ·have hq : k + 1 = s.length + 1 := hq
    rw [if_neg (by omega),List.append_nil] at hx
    exact hx
  have happ : out.map enc1 ++ [[.str ((s.take k).drop a)]] = (out ++ [(s.take k).drop a]).map enc1 := by simp [enc1]
  refine al_eq (fun he => ?_) (fun he => ?_)
  ·have he : k = s.length := by
    have : (k : Int) = (s.length : Int) := he
    omega
   refine ⟨k,rfl,a,rfl,h2,hle,_,rfl,?_⟩
   refine ⟨all_enc1 _,all_one rfl,?_,_,happ,?_⟩
   ·show ((out.map enc1).length + 1) * 16 ≤ 140737488355328
    rw [List.length_map]; omega
   refine ⟨_,hw,_,hw,roundR (k + 1,k + 1,out ++ [(s.take k).drop a]) (piece ?_) (by show s.length + 1 - (k + 1) < s.length + 1 - k; omega) rfl ⟨wR,wR,wR,wR,trivial⟩ trivial⟩
   rw [if_neg (by omega),List.append_nil,← h6]
   have hfree := seg_free h7
   rw [he,List.take_length] at hfree ⊢
   rw [parts_one hfree]
  ·have hlt : k < s.length := by
    have : ¬ (k : Int) = (s.length : Int) := he
    omega
   obtain ⟨c,hc⟩ : ∃ c,s[k]? = some c := ⟨_,List.getElem?_eq_getElem hlt⟩
   refine ⟨by omega,c,idx_str rfl hc,?_⟩
   refine al_eq (fun h47 => ?_) (fun h47 => ?_)
   ·have hc47 : c = 47 := u8_eq h47
    refine ⟨k,rfl,a,rfl,h2,hle,_,rfl,?_⟩
    refine ⟨all_enc1 _,all_one rfl,?_,_,happ,?_⟩
    ·show ((out.map enc1).length + 1) * 16 ≤ 140737488355328
     rw [List.length_map]; omega
    refine ⟨_,hw,_,hw,roundR (k + 1,k + 1,out ++ [(s.take k).drop a]) (piece ?_) (by show s.length + 1 - (k + 1) < s.length + 1 - k; omega) rfl ⟨wR,wR,wR,wR,trivial⟩ trivial⟩
    rw [if_pos hlt,← h6]
    have hsp : s.drop a = (s.take k).drop a ++ 47 :: s.drop (k + 1) := by
     have e1 : s = s.take k ++ (47 :: s.drop (k + 1)) := by
      have := List.drop_eq_getElem_cons hlt
      have hk : s[k] = 47 := by
       have := (List.getElem?_eq_some_iff.1 hc).2
       rw [this,hc47]
      rw [hk] at this
      rw [← this,List.take_append_drop]
     conv => lhs; rw [e1]
     rw [List.drop_append_of_le_length (by rw [List.length_take]; omega)]
    rw [hsp,parts_cut (seg_free h7)]
    simp
   ·have hc47 : c ≠ 47 := fun e => h47 (by rw [e]; rfl)
    refine ⟨_,hw,roundR (k + 1,a,out) ⟨by show k + 1 ≤ _; omega,by show a ≤ k + 1; omega,by show out.length ≤ k + 1; omega,fun hq => ⟨h6,fun i h8 h9 => ?_⟩,fun hq => absurd hq (by show ¬ k + 1 = s.length + 1; omega)⟩ (by show s.length + 1 - (k + 1) < s.length + 1 - k; omega) rfl ⟨wR,wR,wR,wR,trivial⟩ trivial⟩
    have h9 : i < k + 1 := h9
    by_cases hik : i = k
    ·subst hik
     rw [hc]
     intro e
     exact hc47 (Option.some.inj e)
    ·exact h7 i h8 (by omega)
 ·have hgt : ¬ k ≤ s.length := by
   intro h
   exact hgt (show (k : Int) ≤ (s.length : Int) by omega)
  rw [← h5 (by omega)]
  exact .inr rfl
end Qv

end

section
open Go Go.Proofs Go.RowKit
namespace Qv
def encC (set : List Bool) : List AV := .bool false :: .bool false :: set.map AV.bool
def refSet (set : List Bool) (neg : Bool) : List Bool := (List.range 256).map fun i => clsB set neg (UInt8.ofNat i)
def clsRR : Option (List Bool × Bool × Bool × Nat) → AV → Prop
 | some (set,neg,true,n'),r => r = .tup [.agg (encC (refSet set neg)),.int .i64 n']
 | _,r => ∃ set : List Bool,set.length = 256 ∧ r = .tup [.agg (encC set),.int .i64 (0 : Nat)]
theorem take_all (s : Bytes) (a : Nat) : (s.take s.length).drop a = s.drop a := by rw [List.take_length]
abbrev rcSlots (s : Bytes) (n k : Nat) (neg : Bool) (more : List (Nat × FV)) : List (Nat × FV) :=
 (0,.p (.str s)) :: (2,.ptr 2 0) :: (4,.ptr 4 0) :: (5,.p (.int .i64 n)) :: (6,.p (.bool neg)) :: (7,.p (.int .i64 k)) :: more
abbrev rcObjs (set : List Bool) : List (Nat × List FV) := [(2,mapP (encC (List.replicate 256 false))),(4,mapP (encC set))]
def mixF (set : List Bool) (neg : Bool) (b : Nat) : List Bool := (List.range 256).map fun i => if i < b then clsB set neg (UInt8.ofNat i) else set.getD i false
theorem mixF_len (set : List Bool) (neg : Bool) (b : Nat) : (mixF set neg b).length = 256 := by simp [mixF]
theorem mixF_zero {set : List Bool} (neg : Bool) (h : set.length = 256) : mixF set neg 0 = set := by
 apply List.ext_getElem
 ·rw [mixF_len,h]
 ·intro i h1 h2
  simp [mixF,List.getD,List.getElem?_eq_getElem h2]
theorem mixF_end (set : List Bool) (neg : Bool) : mixF set neg 256 = refSet set neg := by
 unfold mixF refSet
 apply List.map_congr_left
 intro i hi
 rw [if_pos (List.mem_range.1 hi)]
theorem mixF_get {set : List Bool} {neg : Bool} {b : Nat} (hb : b < 256) (h : b < (mixF set neg b).length) : (mixF set neg b)[b] = set.getD b false := by
 simp [mixF]
theorem mixF_get1 {set : List Bool} {neg : Bool} {b : Nat} (hb : b < 256) (h : b < (mixF set neg (b + 1)).length) : (mixF set neg (b + 1))[b] = clsB set neg (UInt8.ofNat b) := by
 simp [mixF]
theorem mixF_set {set : List Bool} {neg : Bool} {b : Nat} {v : Bool} (hv : v = clsB set neg (UInt8.ofNat b)) : (mixF set neg b).set b v = mixF set neg (b + 1) := by
 subst hv
 apply List.ext_getElem
 ·rw [List.length_set,mixF_len,mixF_len]
 ·intro i h1 h2
  rw [List.getElem_set]
  simp only [mixF,List.getElem_map,List.getElem_range]
  by_cases hib : b = i
  ·subst hib
   rw [if_pos rfl,if_pos (by omega)]
  ·rw [if_neg hib]
   by_cases hlt : i < b
   ·rw [if_pos hlt,if_pos (by omega)]
   ·rw [if_neg hlt,if_neg (by omega)]
theorem clsB_nat {set : List Bool} {neg : Bool} {b : Nat} (hb : b < 256) : clsB set neg (UInt8.ofNat b) = ((set.getD b false != neg) && decide (b ≠ 47)) := by
 have h1 : (UInt8.ofNat b).toNat = b := by simp; omega
 have h2 : (UInt8.ofNat b != 47) = decide (b ≠ 47) := by
  by_cases h : b = 47
  ·subst h; rfl
  ·have : UInt8.ofNat b ≠ 47 := fun e => h (by have := congrArg UInt8.toNat e; rw [h1] at this; exact this)
   simp [this,h]
 simp only [clsB,h1,h2]
 rw [Bool.and_comm]
def i199 : TInfo := ⟨258,258,.struct [(0,4),(1,4),(2,74)],List.replicate 258 (.bool false)⟩
theorem encC_split {set : List Bool} {i : Nat} (h : i < set.length) : mapP (encC set) = ([FV.p (.bool false),FV.p (.bool false)] ++ encSet (set.take i)) ++ ([FV.p (.bool set[i])] ++ encSet (set.drop (i + 1))) := by
 show [FV.p (.bool false),FV.p (.bool false)] ++ encSet set = _
 conv => lhs; rw [encSet_split h]
 simp
theorem encC_set {set : List Bool} {i : Nat} {b : Bool} (h : i < set.length) : ([FV.p (.bool false),FV.p (.bool false)] ++ encSet (set.take i)) ++ ([FV.p (.bool b)] ++ encSet (set.drop (i + 1))) = mapP (encC (set.set i b)) := by
 rw [List.append_assoc,encSet_set h]
 rfl
theorem encC_at {set : List Bool} {i : Nat} (h : i < set.length) : ([FV.p (.bool false),FV.p (.bool false)] ++ encSet (set.take i)).length = 2 + i * 1 := by
 rw [List.length_append,encSet_length,List.length_take,Nat.min_eq_left (by omega)]
 show 2 + i = _
 omega
theorem encC_len {set : List Bool} (h : set.length = 256) : (mapP (encC set)).length = 258 := by simp [encC,h,mapP_eq]
theorem encC_one (set : List Bool) : allOne (mapP (encC set)) = true := by
 show allOne (mapP (set.map AV.bool)) = true
 induction set with
 | nil => rfl
 | cons b l ih => exact ih
theorem encC_all (set : List Bool) : (encC set).all AV.one = true := by
 show (set.map AV.bool).all AV.one = true
 induction set with
 | nil => rfl
 | cons b l ih => exact ih
section
attribute [local irreducible] evReturn
set_option maxHeartbeats 4000000 in
set_option maxRecDepth 100000 in
theorem refClass_ok (s : Bytes) (hs : s.length ≤ 2 ^ 30) (hl : 1 ≤ s.length) : CallsTo C 209 [.str s] (fun r => ∃ x,r = .val x ∧ clsRR (clsF s 1) x) := by
 refine callsTo_of_evO ⟨[],[],false,[],[],[]⟩ [4,6,10,12,16,19,25,31,33,34] Tryz.func209 rfl rfl rfl ?_
 rw [clsF_eq]
 refine ⟨none,?_⟩
 refine share (T := ?T) (fun H => ?main) ?rest
 case main =>
  refine al_dec (fun hlt => ?_) (fun hge => ?_)
  ·have hlt : 1 < s.length := by
    have : (1 : Int) < (s.length : Int) := hlt
    omega
   obtain ⟨c,hc⟩ : ∃ c,s[1]? = some c := ⟨_,List.getElem?_eq_getElem hlt⟩
   refine ⟨by omega,c,hc,⟨fun neg hneg => ?_⟩⟩
   have hn : negF s 1 = neg := by
    rw [hneg]
    simp only [negF,peekF_some hc]
    by_cases h : c = 33
    ·subst h; rfl
    ·have h2 : ¬ ((c.toNat : Int) = 33) := fun e => h (u8_eq e)
     rw [beq_eq_false_iff_ne.2 h]
     exact (beq_eq_false_iff_ne.2 h2).symm
   refine cutR 145 [(0,.p (.str s)),(2,.ptr 2 0),(4,.ptr 4 0),(5,.p (.int .i64 1)),(6,.p (.bool neg))] (rcObjs (List.replicate 256 false)) rfl ⟨wR,wR,wR,wR,wR,trivial⟩ ⟨hO1 (by kernel_rfl),hO1 (by kernel_rfl),trivial⟩ ?_
   clear hneg
   revert neg
   exact H.out
  ·have hge : s.length = 1 := by
    have : ¬ (1 : Int) < (s.length : Int) := hge
    omega
   have hn : negF s 1 = false := by simp only [negF,peekF_none (List.getElem?_eq_none (show s.length ≤ 1 by omega))]; rfl
   refine cutR 145 [(0,.p (.str s)),(2,.ptr 2 0),(4,.ptr 4 0),(5,.p (.int .i64 1)),(6,.p (.bool false))] (rcObjs (List.replicate 256 false)) rfl ⟨wR,wR,wR,wR,wR,trivial⟩ ⟨hO1 (by kernel_rfl),hO1 (by kernel_rfl),trivial⟩ ?_
   exact H.out false hn
 case rest =>
  refine share (T := ?T2) (fun H => ?main2) ?rest2
  case main2 =>
   intro neg hn
   rw [hn]
   have hneg2 : neg = true → 2 ≤ s.length := fun e => by
    have h0 : (peekF s 1).1 = 33 := by
     rw [e] at hn
     simpa [negF] using hn
    have : 1 < s.length := by
     refine peekF_lt ?_
     cases hq : s[1]? with
     | none => rw [peekF_none hq] at h0; exact absurd h0 (by decide)
     | some c => rw [peekF_some hq]
    omega
   clear hn
   cases neg with
   | true =>
     have h2 := hneg2 rfl
     refine ⟨((2 : Nat) : Int),rfl,?_⟩
     obtain ⟨neg,e1⟩ : ∃ neg,neg = true := ⟨_,rfl⟩
     obtain ⟨n0,e2⟩ : ∃ n0,n0 = 2 := ⟨_,rfl⟩
     have hle : n0 ≤ s.length := by omega
     have h1n : 1 ≤ n0 := by omega
     rw [show clsE s true (clsGo s (s.length + 1) (if true = true then 1 + 1 else 1) (List.replicate 256 false) 0) = clsE s neg (clsGo s (s.length + 1) n0 (List.replicate 256 false) 0) from by rw [e1,e2]; rfl]
     refine cutR 145 [(0,.p (.str s)),(2,.ptr 2 0),(4,.ptr 4 0),(5,.p (.int .i64 n0)),(6,.p (.bool neg))] (rcObjs (List.replicate 256 false)) rfl ⟨wR,wR,wR,Weak.eq (by rw [e2]; rfl),Weak.eq (by rw [e1]; rfl),trivial⟩ ⟨hO1 rfl,hO1 rfl,trivial⟩ ?_
     clear e1 e2 h2
     revert neg n0
     exact H.out
   | false =>
     refine cutR 145 [(0,.p (.str s)),(2,.ptr 2 0),(4,.ptr 4 0),(5,.p (.int .i64 (1 : Nat))),(6,.p (.bool false))] (rcObjs (List.replicate 256 false)) rfl ⟨wR,wR,wR,wR,wR,trivial⟩ ⟨hO1 rfl,hO1 rfl,trivial⟩ ?_
     exact H.out false 1 hl (Nat.le_refl _)
  case rest2 =>
   intro neg n0 hle h1n
   generalize hX : clsGo s (s.length + 1) n0 (List.replicate 256 false) 0 = X
   refine loopR 145 (fun x : Nat × List Bool × Nat => rcSlots s x.1 x.2.2 neg []) (fun x => rcObjs x.2.1) (fun x => x.1 ≤ s.length ∧ x.2.1.length = 256 ∧ x.2.2 ≤ x.1 ∧ 1 ≤ x.1 ∧ ∃ f,s.length + 1 - x.1 ≤ f ∧ clsGo s f x.1 x.2.1 x.2.2 = X) (fun x => s.length + 1 - x.1)
    (n0,List.replicate 256 false,0) ⟨hle,List.length_replicate,Nat.zero_le _,h1n,s.length + 1,by simp only; omega,hX⟩ rfl ⟨wR,wR,wR,wR,wR,wR,trivial⟩ ⟨hO1 rfl,hO1 rfl,trivial⟩ ?_
   clear hX hle h1n n0
   rintro ⟨m,set,k⟩ ⟨hm,hset,hk,h1m,f,hf,hX⟩
   have hm : m ≤ s.length := hm
   have hset : set.length = 256 := hset
   have hk : k ≤ m := hk
   have h1m : 1 ≤ m := h1m
   have hf : s.length + 1 - m ≤ f := hf
   have hX : clsGo s f m set k = X := hX
   obtain ⟨f,rfl⟩ : ∃ f',f = f' + 1 := ⟨f - 1,by omega⟩
   refine ⟨none,?_⟩
   refine al_dec (fun hlt => ?_) (fun hge => ?_)
   ·have hlt : m < s.length := by
     have : (m : Int) < (s.length : Int) := hlt
     omega
    obtain ⟨c,hq⟩ : ∃ c,s[m]? = some c := ⟨_,List.getElem?_eq_getElem hlt⟩
    refine ⟨by omega,c,idx_str rfl hq,?_⟩
    refine al_ne (fun h93 => ?_) (fun h93 => ?_)
    ·have hc : c ≠ 93 := fun e => h93 (by rw [e]; rfl)
     have hple := plainF_le s m hm
     have hrp := ref1_plain s m hm
     obtain ⟨lo,n1,hr1⟩ : ∃ lo n1,ref1 (s.drop m) = (lo,n1) := ⟨_,_,rfl⟩
     rw [hr1] at hrp
     have hrp : plainF s m = if n1 = 0 then (0,false,(plainF s m).2.2) else (lo,true,m + n1) := hrp
     refine ⟨m,rfl,hm,Nat.le_refl _,_,take_all s m,?_⟩
     refine ⟨_,(refOne_ok (s.drop m) (by rw [List.length_drop]; omega)).opn,?_⟩
     rintro r rfl
     rw [hr1]
     refine al_eq (fun hz => ?_) (fun hz => ?_)
     ·have hz : n1 = 0 := by
       have : (n1 : Int) = 0 := hz
       omega
      rw [if_pos hz] at hrp
      generalize (plainF s m).2.2 = q3 at hrp
      have hx : X = none := by
       rw [← hX]
       simp only [clsGo,hq,hc,if_false,hrp,hiF,Bool.false_eq_true,false_and,if_false,true_or,if_true]
      refine cutR 145 (rcSlots s m k neg []) (rcObjs (set)) rfl ⟨wR,wR,wR,wR,wR,wR,trivial⟩ ⟨hO1 rfl,hO1 rfl,trivial⟩ ?_
      refine evRegion_load _ _ 199 (.tmp 4) 4 (mapP (encC set)) rfl rfl rfl rfl rfl rfl rfl rfl (encC_len hset) ?_
      refine evOps_store 199 (.tmp 2) (.tmp 49) 2 (mapP (encC set)) (mapP (encC (List.replicate 256 false))) rfl rfl rfl rfl rfl rfl (encC_len hset) (encC_len (by simp)) (encC_one set) ?_
      refine evReturn_cell (i := i199) 2 199 3 2 (mapP (encC (set))) (encC (set)) (.int .i64 ((0 : Nat) : Int)) ?_ ?_ ?_ ?_ ?_ ?_ ?_ ?_ ?_ ?_
      ·rfl
      ·rfl
      ·rfl
      ·rfl
      ·rfl
      ·exact encC_len hset
      ·exact toAVs_mapP _
      ·exact encC_all _
      ·rfl
      rw [hx]
      exact ⟨_,rfl,set,hset,rfl⟩
     ·have hz : n1 ≠ 0 := fun e => hz (show (n1 : Int) = 0 by omega)
      rw [if_neg hz] at hrp
      rw [hrp] at hple
      have hle1 : m + n1 ≤ s.length := hple.2.1
      have hw1 : IntKind.i64.wrap ((m : Int) + (n1 : Int)) = ((m + n1 : Nat) : Int) := by rw [wrap64 (by omega) (by omega)]; omega
      refine ⟨_,hw1,?_⟩
      generalize hm1 : m + n1 = m1 at hrp hle1
      have hmm1 : m < m1 := by omega
      refine cutR 145 (rcSlots s m1 k neg [(8,.p (.int .u8 lo.toNat))]) (rcObjs set) rfl ⟨wR,wR,wR,wR,wR,wR,wR,trivial⟩ ⟨hO1 rfl,hO1 rfl,trivial⟩ ?_
      have hw2 : IntKind.i64.wrap ((m1 : Int) + 1) = ((m1 + 1 : Nat) : Int) := by rw [wrap64 (by omega) (by omega)]; omega
      refine share (T := ?T3) (fun H => ?m3) ?r3
      case m3 =>
       refine ⟨none,?_⟩
       refine ⟨_,hw2,?_⟩
       have no : (¬ ((peekF s m1).1 = 45 ∧ (peekF s (m1 + 1)).2 = true ∧ (peekF s (m1 + 1)).1 ≠ 93)) → hiF s lo true m1 = (lo,true,m1) := fun h => by
        unfold hiF
        rw [if_neg (fun e => h e.2)]
       refine al_dec (fun h1 => ?_) (fun h1 => ?_)
       ·have h1 : m1 + 1 < s.length := by
         have : ((m1 + 1 : Nat) : Int) < (s.length : Int) := h1
         omega
        obtain ⟨d,hd⟩ : ∃ d,s[m1]? = some d := ⟨_,List.getElem?_eq_getElem (by omega)⟩
        obtain ⟨e,he⟩ : ∃ e,s[m1 + 1]? = some e := ⟨_,List.getElem?_eq_getElem h1⟩
        refine ⟨by omega,d,idx_str rfl hd,?_⟩
        refine al_eq (fun h45 => ?_) (fun h45 => ?_)
        ·have h45 : d = 45 := u8_eq h45
         refine ⟨_,hw2,by omega,e,idx_str rfl he,?_⟩
         refine al_ne (fun h93 => ?_) (fun h93 => ?_)
         ·have h93 : e ≠ 93 := fun q => h93 (by rw [q]; rfl)
          have hhi : hiF s lo true m1 = plainF s (m1 + 1) := by
           unfold hiF
           rw [peekF_some hd,peekF_some he,if_pos ⟨rfl,h45,rfl,h93⟩]
          have hrp2 := ref1_plain s (m1 + 1) (by omega)
          obtain ⟨hi,n2,hr2⟩ : ∃ hi n2,ref1 (s.drop (m1 + 1)) = (hi,n2) := ⟨_,_,rfl⟩
          rw [hr2] at hrp2
          have hrp2 : plainF s (m1 + 1) = if n2 = 0 then (0,false,(plainF s (m1 + 1)).2.2) else (hi,true,m1 + 1 + n2) := hrp2
          refine ⟨_,hw2,m1 + 1,rfl,by omega,Nat.le_refl _,_,take_all s (m1 + 1),?_⟩
          refine ⟨_,(refOne_ok (s.drop (m1 + 1)) (by rw [List.length_drop]; omega)).opn,?_⟩
          rintro r rfl
          rw [hr2]
          refine ⟨none,?_⟩
          refine al_eq (fun hz2 => ?_) (fun hz2 => ?_)
          ·have hz2 : n2 = 0 := by
            have : (n2 : Int) = 0 := hz2
            omega
           rw [if_pos hz2] at hrp2
           generalize (plainF s (m1 + 1)).2.2 = q3 at hrp2
           have hx : X = none := by
            rw [← hX]
            simp only [clsGo,hq,hc,if_false,hrp,hhi,hrp2,true_or,if_true]
           refine cutR 145 (rcSlots s m1 k neg [(8,.p (.int .u8 lo.toNat))]) (rcObjs set) rfl ⟨wR,wR,wR,wR,wR,wR,wR,trivial⟩ ⟨hO1 rfl,hO1 rfl,trivial⟩ ?_
           refine evRegion_load _ _ 199 (.tmp 4) 4 (mapP (encC set)) rfl rfl rfl rfl rfl rfl rfl rfl (encC_len hset) ?_
           refine evOps_store 199 (.tmp 2) (.tmp 87) 2 (mapP (encC set)) (mapP (encC (List.replicate 256 false))) rfl rfl rfl rfl rfl rfl (encC_len hset) (encC_len (by simp)) (encC_one set) ?_
           refine evReturn_cell (i := i199) 2 199 3 2 (mapP (encC (set))) (encC (set)) (.int .i64 ((0 : Nat) : Int)) ?_ ?_ ?_ ?_ ?_ ?_ ?_ ?_ ?_ ?_
           ·rfl
           ·rfl
           ·rfl
           ·rfl
           ·rfl
           ·exact encC_len hset
           ·exact toAVs_mapP _
           ·exact encC_all _
           ·rfl
           rw [hx]
           exact ⟨_,rfl,set,hset,rfl⟩
          ·have hz2 : n2 ≠ 0 := fun e => hz2 (show (n2 : Int) = 0 by omega)
           rw [if_neg hz2] at hrp2
           have hle2 := plainF_le s (m1 + 1) (by omega)
           rw [hrp2] at hle2 hhi
           have hle2 : m1 + 1 + n2 ≤ s.length := hle2.2.1
           refine al_dec (fun hgt => ?_) (fun hgt => ?_)
           ·have hgt : hi.toNat < lo.toNat := by
             have : ((hi.toNat : Nat) : Int) < ((lo.toNat : Nat) : Int) := hgt
             omega
            have hx : X = none := by
             rw [← hX]
             simp only [clsGo,hq,hc,if_false,hrp,hhi,hgt,or_true,if_true]
            refine cutR 145 (rcSlots s m1 k neg [(8,.p (.int .u8 lo.toNat))]) (rcObjs set) rfl ⟨wR,wR,wR,wR,wR,wR,wR,trivial⟩ ⟨hO1 rfl,hO1 rfl,trivial⟩ ?_
            refine evRegion_load _ _ 199 (.tmp 4) 4 (mapP (encC set)) rfl rfl rfl rfl rfl rfl rfl rfl (encC_len hset) ?_
            refine evOps_store 199 (.tmp 2) (.tmp 87) 2 (mapP (encC set)) (mapP (encC (List.replicate 256 false))) rfl rfl rfl rfl rfl rfl (encC_len hset) (encC_len (by simp)) (encC_one set) ?_
            refine evReturn_cell (i := i199) 2 199 3 2 (mapP (encC (set))) (encC (set)) (.int .i64 ((0 : Nat) : Int)) ?_ ?_ ?_ ?_ ?_ ?_ ?_ ?_ ?_ ?_
            ·rfl
            ·rfl
            ·rfl
            ·rfl
            ·rfl
            ·exact encC_len hset
            ·exact toAVs_mapP _
            ·exact encC_all _
            ·rfl
            rw [hx]
            exact ⟨_,rfl,set,hset,rfl⟩
           ·have hgt : ¬ hi.toNat < lo.toNat := by
             have : ¬ ((hi.toNat : Nat) : Int) < ((lo.toNat : Nat) : Int) := hgt
             omega
            have hw3 : IntKind.i64.wrap ((((m1 + 1 : Nat) : Int)) + (n2 : Int)) = ((m1 + 1 + n2 : Nat) : Int) := by rw [wrap64 (by omega) (by omega)]; omega
            refine ⟨_,hw2,_,hw3,?_⟩
            obtain ⟨hi2,e1⟩ : ∃ x : UInt8,hi = x := ⟨_,rfl⟩
            obtain ⟨m2,e2⟩ : ∃ x : Nat,m1 + 1 + n2 = x := ⟨_,rfl⟩
            have hall : hiF s lo true m1 = (hi2,true,m2) ∧ ¬ hi2.toNat < lo.toNat ∧ m2 ≤ s.length ∧ m < m2 := by
             rw [← e1,← e2]
             exact ⟨hhi,hgt,hle2,by omega⟩
            refine cutR 145 (rcSlots s m2 k neg [(8,.p (.int .u8 lo.toNat)),(10,.p (.int .u8 hi2.toNat))]) (rcObjs set) rfl ⟨wR,wR,wR,Weak.eq (by rw [← e2]; rfl),wR,wR,wR,Weak.eq (by rw [← e1]; rfl),trivial⟩ ⟨hO1 rfl,hO1 rfl,trivial⟩ ?_
            clear e1 e2
            revert hi2 m2
            exact H.out
         ·have h93 : e = 93 := u8_eq h93
          have hhi := no (fun q => q.2.2 (by rw [peekF_some he]; exact h93))
          refine cutR 145 (rcSlots s m1 k neg [(8,.p (.int .u8 lo.toNat)),(10,.p (.int .u8 lo.toNat))]) (rcObjs set) rfl ⟨wR,wR,wR,wR,wR,wR,wR,wR,trivial⟩ ⟨hO1 rfl,hO1 rfl,trivial⟩ ?_
          exact H.out lo m1 ⟨hhi,Nat.lt_irrefl _,hle1,hmm1⟩
        ·have h45 : d ≠ 45 := fun q => h45 (by rw [q]; rfl)
         have hhi := no (fun q => h45 (by have := q.1; rw [peekF_some hd] at this; exact this))
         refine cutR 145 (rcSlots s m1 k neg [(8,.p (.int .u8 lo.toNat)),(10,.p (.int .u8 lo.toNat))]) (rcObjs set) rfl ⟨wR,wR,wR,wR,wR,wR,wR,wR,trivial⟩ ⟨hO1 rfl,hO1 rfl,trivial⟩ ?_
         exact H.out lo m1 ⟨hhi,Nat.lt_irrefl _,hle1,hmm1⟩
       ·have h1 : ¬ m1 + 1 < s.length := by
         intro h
         exact h1 (show ((m1 + 1 : Nat) : Int) < (s.length : Int) by omega)
        have hhi := no (fun q => absurd (peekF_lt q.2.1) h1)
        refine cutR 145 (rcSlots s m1 k neg [(8,.p (.int .u8 lo.toNat)),(10,.p (.int .u8 lo.toNat))]) (rcObjs set) rfl ⟨wR,wR,wR,wR,wR,wR,wR,wR,trivial⟩ ⟨hO1 rfl,hO1 rfl,trivial⟩ ?_
        exact H.out lo m1 ⟨hhi,Nat.lt_irrefl _,hle1,hmm1⟩
      case r3 =>
       rintro hi m2 ⟨hhi,hge2,hle4,hm2⟩
       have hX2 : clsGo s f m2 (fillN set lo.toNat (hi.toNat + 1 - lo.toNat)) (k + 1) = X := by
        rw [← hX]
        simp only [clsGo,hq,hc,if_false,hrp,hhi,hge2,Bool.true_eq_false,or_self]
       have hhi : hi.toNat < 256 := hi.toNat_lt
       refine ⟨((lo.toNat + 0 : Nat) : Int),by rw [wrap64 (by omega) (by omega)]; rfl,?_⟩
       refine loopR 145 (fun j : Nat => rcSlots s m2 k neg [(10,.p (.int .u8 hi.toNat)),(13,.p (.int .i64 ((lo.toNat + j : Nat) : Int)))]) (fun j => rcObjs (fillN set lo.toNat j)) (fun j => j ≤ hi.toNat + 1 - lo.toNat) (fun j => hi.toNat + 1 - lo.toNat - j) 0 (Nat.zero_le _) rfl
        ⟨wR,wR,wR,wR,wR,wR,wR,wR,trivial⟩ ⟨hO1 rfl,hO1 rfl,trivial⟩ ?_
       intro j hj
       have hj : j ≤ hi.toNat + 1 - lo.toNat := hj
       have hwh : IntKind.i64.wrap ((hi.toNat : Nat) : Int) = ((hi.toNat : Nat) : Int) := wrap64 (by omega) (by omega)
       refine ⟨_,hwh,?_⟩
       refine al_dec (fun hlej => ?_) (fun hlej => ?_)
       ·have hlej : ((lo.toNat + j : Nat) : Int) ≤ ((hi.toNat : Nat) : Int) := hlej
        have hlen : (fillN set lo.toNat j).length = 256 := by rw [fillN_length]; exact hset
        refine ⟨lo.toNat + j,rfl,by omega,true,_,rfl,?_⟩
        have hij : lo.toNat + j < (fillN set lo.toNat j).length := by omega
        refine ⟨_,_,_,encC_split hij,encC_at hij,_,encC_set hij,?_⟩
        have hwj : IntKind.i64.wrap (((lo.toNat + j : Nat) : Int) + 1) = ((lo.toNat + (j + 1) : Nat) : Int) := by rw [wrap64 (by omega) (by omega)]; omega
        refine ⟨_,hwj,?_⟩
        refine roundR (j + 1) (by show j + 1 ≤ _; omega) (by show _ < _; omega) rfl ⟨wR,wR,wR,wR,wR,wR,wR,wR,trivial⟩ ⟨hO1 rfl,hO1 (by rw [fillN_next]; rfl),trivial⟩
       ·have hlej : ¬ ((lo.toNat + j : Nat) : Int) ≤ ((hi.toNat : Nat) : Int) := hlej
        have hje : j = hi.toNat + 1 - lo.toNat := by omega
        refine ⟨((k + 1 : Nat) : Int),by rw [wrap64 (by omega) (by omega)]; omega,?_⟩
        refine roundR (m2,fillN set lo.toNat (hi.toNat + 1 - lo.toNat),k + 1) ⟨hle4,by simp only [fillN_length]; exact hset,by show k + 1 ≤ m2; omega,by show 1 ≤ m2; omega,f,by show s.length + 1 - m2 ≤ f; omega,hX2⟩ (by show s.length + 1 - m2 < s.length + 1 - m; omega) rfl
         ⟨wR,wR,wR,wR,wR,wR,trivial⟩ ⟨hO1 rfl,hO1 (by rw [← hje]; rfl),trivial⟩
    ·have hc : c = 93 := u8_eq h93
     have hx : X = some (set,k,m + 1) := by rw [← hX]; simp only [clsGo,hq,hc,if_true]
     refine ⟨none,?_⟩
     refine al_dec (fun h => absurd (show (s.length : Int) ≤ (m : Int) from h) (by omega)) (fun _ => ?_)
     refine al_eq (fun hk0 => ?_) (fun hk0 => ?_)
     ·have hk0 : k = 0 := by
       have : (k : Int) = 0 := hk0
       omega
      refine cutR 145 (rcSlots s m k neg []) (rcObjs set) rfl ⟨wR,wR,wR,wR,wR,wR,trivial⟩ ⟨hO1 rfl,hO1 rfl,trivial⟩ ?_
      refine evRegion_load _ _ 199 (.tmp 4) 4 (mapP (encC set)) rfl rfl rfl rfl rfl rfl rfl rfl (encC_len hset) ?_
      refine evOps_store 199 (.tmp 2) (.tmp 114) 2 (mapP (encC set)) (mapP (encC (List.replicate 256 false))) rfl rfl rfl rfl rfl rfl (encC_len hset) (encC_len (by simp)) (encC_one set) ?_
      refine evReturn_cell (i := i199) 2 199 3 2 (mapP (encC (set))) (encC (set)) (.int .i64 ((0 : Nat) : Int)) ?_ ?_ ?_ ?_ ?_ ?_ ?_ ?_ ?_ ?_
      ·rfl
      ·rfl
      ·rfl
      ·rfl
      ·rfl
      ·exact encC_len hset
      ·exact toAVs_mapP _
      ·exact encC_all _
      ·rfl
      rw [hx]
      have : clsE s neg (some (set,k,m + 1)) = some (set,neg,false,m + 1) := by simp [clsE,hk0]
      rw [this]
      exact ⟨_,rfl,set,hset,rfl⟩
     ·have hk0 : 0 < k := by
       have : ¬ (k : Int) = 0 := hk0
       omega
      refine loopR 145 (fun b : Nat => rcSlots s m k neg [(14,.p (.bool ((List.range b).any fun i => clsB set neg (UInt8.ofNat i)))),(15,.p (.int .i64 b))]) (fun b => rcObjs (mixF set neg b)) (fun b => b ≤ 256) (fun b => 256 - b) 0 (Nat.zero_le _) rfl
       ⟨wR,wR,wR,wR,wR,wR,wR,wR,trivial⟩ ⟨hO1 rfl,hO1 (by rw [mixF_zero neg hset]; rfl),trivial⟩ ?_
      intro b hb
      refine al_dec (fun hlt3 => ?_) (fun hge3 => ?_)
      ·have hlt3 : b < 256 := by
        have : (b : Int) < 256 := hlt3
        omega
       have hbm : b < (mixF set neg b).length := by rw [mixF_len]; exact hlt3
       have hbm1 : b < (mixF set neg (b + 1)).length := by rw [mixF_len]; exact hlt3
       have hv := clsB_nat (set := set) (neg := neg) hlt3
       have hg := mixF_get (set := set) (neg := neg) hlt3 hbm
       refine share (T := ?T4) (fun H => ?m4) ?r4
       case m4 =>
        refine ⟨none,?_⟩
        refine ⟨b,rfl,hlt3,true,_,rfl,_,_,_,encC_split hbm,encC_at hbm,?_⟩
        rw [hg]
        refine ⟨fun t ht => ?_⟩
        have ht : t = (set.getD b false != neg) := ht
        rw [← ht] at hv
        clear ht
        cases t with
        | true =>
          refine ⟨fun t ht => ?_⟩
          have ht : t = ((b : Int) != 47) := ht
          have hv2 : t = clsB set neg (UInt8.ofNat b) := by
           rw [hv,ht,Bool.true_and]
           by_cases h47 : b = 47
           ·subst h47; rfl
           ·rw [decide_eq_true h47]
            simp only [bne_iff_ne,ne_eq]
            omega
          refine ⟨b,rfl,hlt3,true,_,rfl,?_⟩
          refine ⟨_,_,_,encC_split hbm,encC_at hbm,_,encC_set hbm,?_⟩
          refine cutR 145 (rcSlots s m k neg [(14,.p (.bool ((List.range b).any fun i => clsB set neg (UInt8.ofNat i)))),(15,.p (.int .i64 b))]) (rcObjs (mixF set neg (b + 1))) rfl ⟨wR,wR,wR,wR,wR,wR,wR,wR,trivial⟩ ⟨hO1 rfl,hO1 (by rw [← mixF_set hv2]; rfl),trivial⟩ ?_
          exact H.out
        | false =>
          have hv2 : false = clsB set neg (UInt8.ofNat b) := by rw [hv,Bool.false_and]
          refine ⟨b,rfl,hlt3,true,_,rfl,?_⟩
          refine ⟨_,_,_,encC_split hbm,encC_at hbm,_,encC_set hbm,?_⟩
          refine cutR 145 (rcSlots s m k neg [(14,.p (.bool ((List.range b).any fun i => clsB set neg (UInt8.ofNat i)))),(15,.p (.int .i64 b))]) (rcObjs (mixF set neg (b + 1))) rfl ⟨wR,wR,wR,wR,wR,wR,wR,wR,trivial⟩ ⟨hO1 rfl,hO1 (by rw [← mixF_set hv2]; rfl),trivial⟩ ?_
          exact H.out
       case r4 =>
        have hwb : IntKind.i64.wrap ((b : Int) + 1) = ((b + 1 : Nat) : Int) := by rw [wrap64 (by omega) (by omega)]; omega
        have hnext : ((List.range (b + 1)).any fun i => clsB set neg (UInt8.ofNat i)) = (((List.range b).any fun i => clsB set neg (UInt8.ofNat i)) || clsB set neg (UInt8.ofNat b)) := by
         rw [List.range_succ,List.any_append]
         simp
        have hg1 := mixF_get1 (set := set) (neg := neg) hlt3 hbm1
        refine ⟨none,?_⟩
        cases hq2 : ((List.range b).any fun i => clsB set neg (UInt8.ofNat i)) with
        | true =>
          refine ⟨_,hwb,roundR (b + 1) hlt3 (by show 256 - (b + 1) < 256 - b; omega) rfl ⟨wR,wR,wR,wR,wR,wR,Weak.eq (by rw [hnext,hq2,Bool.true_or]; rfl),wR,trivial⟩ ⟨hO1 rfl,hO1 rfl,trivial⟩⟩
        | false =>
          refine ⟨b,rfl,hlt3,true,_,rfl,_,_,_,encC_split hbm1,encC_at hbm1,?_⟩
          refine ⟨_,hwb,roundR (b + 1) hlt3 (by show 256 - (b + 1) < 256 - b; omega) rfl ⟨wR,wR,wR,wR,wR,wR,Weak.eq (by rw [hnext,hq2,Bool.false_or,← hg1]; rfl),wR,trivial⟩ ⟨hO1 rfl,hO1 rfl,trivial⟩⟩
      ·have hb : b = 256 := by
        have hb : b ≤ 256 := hb
        have : ¬ (b : Int) < 256 := hge3
        omega
       subst hb
       have hcl : clsE s neg (some (set,k,m + 1)) = some (set,neg,someC set neg,m + 1) := by
        simp only [clsE]
        rw [decide_eq_true hk0,Bool.true_and]
       have hlen := mixF_len set neg 256
       refine al_not ?_
       cases hq2 : ((List.range 256).any fun i => clsB set neg (UInt8.ofNat i)) with
       | false =>
         have hsc : someC set neg = false := hq2
         have hset0 := hset
         generalize mixF set neg 256 = set2 at hlen ⊢
         refine cutR 145 (rcSlots s m k neg []) (rcObjs set2) rfl ⟨wR,wR,wR,wR,wR,wR,trivial⟩ ⟨hO1 rfl,hO1 rfl,trivial⟩ ?_
         refine evRegion_load _ _ 199 (.tmp 4) 4 (mapP (encC set2)) rfl rfl rfl rfl rfl rfl rfl rfl (encC_len hlen) ?_
         refine evOps_store 199 (.tmp 2) (.tmp 141) 2 (mapP (encC set2)) (mapP (encC (List.replicate 256 false))) rfl rfl rfl rfl rfl rfl (encC_len hlen) (encC_len (by simp)) (encC_one set2) ?_
         refine evReturn_cell (i := i199) 2 199 3 2 (mapP (encC (set2))) (encC (set2)) (.int .i64 ((0 : Nat) : Int)) ?_ ?_ ?_ ?_ ?_ ?_ ?_ ?_ ?_ ?_
         ·rfl
         ·rfl
         ·rfl
         ·rfl
         ·rfl
         ·exact encC_len hlen
         ·exact toAVs_mapP _
         ·exact encC_all _
         ·rfl
         rw [hx,hcl,hsc]
         exact ⟨_,rfl,set2,hlen,rfl⟩
       | true =>
         have hsc : someC set neg = true := hq2
         have hwm : IntKind.i64.wrap ((m : Int) + 1) = ((m + 1 : Nat) : Int) := by rw [wrap64 (by omega) (by omega)]; omega
         rw [mixF_end] at hlen ⊢
         refine cutR 145 (rcSlots s m k neg []) (rcObjs (refSet set neg)) rfl ⟨wR,wR,wR,wR,wR,wR,trivial⟩ ⟨hO1 rfl,hO1 rfl,trivial⟩ ?_
         refine evRegion_load _ _ 199 (.tmp 4) 4 (mapP (encC (refSet set neg))) rfl rfl rfl rfl rfl rfl rfl rfl (encC_len hlen) ?_
         refine ⟨_,hwm,?_⟩
         refine evOps_store 199 (.tmp 2) (.tmp 142) 2 (mapP (encC (refSet set neg))) (mapP (encC (List.replicate 256 false))) rfl rfl rfl rfl rfl rfl (encC_len hlen) (encC_len (by simp)) (encC_one _) ?_
         refine evReturn_cell (i := i199) 2 199 3 2 (mapP (encC (refSet set neg))) (encC (refSet set neg)) (.int .i64 ((m + 1 : Nat) : Int)) ?_ ?_ ?_ ?_ ?_ ?_ ?_ ?_ ?_ ?_
         ·rfl
         ·rfl
         ·rfl
         ·rfl
         ·rfl
         ·exact encC_len hlen
         ·exact toAVs_mapP _
         ·exact encC_all _
         ·rfl
         rw [hx,hcl,hsc]
         exact ⟨_,rfl,rfl⟩
   ·have hge : s.length ≤ m := by
     have : ¬ (m : Int) < (s.length : Int) := hge
     omega
    have hq : s[m]? = none := List.getElem?_eq_none hge
    have hx : X = none := by rw [← hX]; simp only [clsGo,hq]
    refine ⟨none,?_⟩
    refine al_dec (fun _ => ?_) (fun h => absurd (show (s.length : Int) ≤ (m : Int) by omega) h)
    refine cutR 145 (rcSlots s m k neg []) (rcObjs (set)) rfl ⟨wR,wR,wR,wR,wR,wR,trivial⟩ ⟨hO1 rfl,hO1 rfl,trivial⟩ ?_
    refine evRegion_load _ _ 199 (.tmp 4) 4 (mapP (encC set)) rfl rfl rfl rfl rfl rfl rfl rfl (encC_len hset) ?_
    refine evOps_store 199 (.tmp 2) (.tmp 114) 2 (mapP (encC set)) (mapP (encC (List.replicate 256 false))) rfl rfl rfl rfl rfl rfl (encC_len hset) (encC_len (by simp)) (encC_one set) ?_
    refine evReturn_cell (i := i199) 2 199 3 2 (mapP (encC (set))) (encC (set)) (.int .i64 ((0 : Nat) : Int)) ?_ ?_ ?_ ?_ ?_ ?_ ?_ ?_ ?_ ?_
    ·rfl
    ·rfl
    ·rfl
    ·rfl
    ·rfl
    ·exact encC_len hset
    ·exact toAVs_mapP _
    ·exact encC_all _
    ·rfl
    rw [hx]
    exact ⟨_,rfl,set,hset,rfl⟩
end
end Qv

end
