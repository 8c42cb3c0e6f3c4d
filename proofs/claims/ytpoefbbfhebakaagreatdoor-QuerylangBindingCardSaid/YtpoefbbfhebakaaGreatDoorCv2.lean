/- Several texts in one: The same: structs, arrays and slices written out and what follows. No condition. -/
import Derived.Test.YtpoefbbfhebakaaGreatDoorCv1
import Derived.Maps.RangeRun
import Derived.Laws.Append
import Derived.Laws.Tables
import Derived.Laws.AppendOwn
import Derived.Laws.MakeOwn
set_option linter.unusedVariables false
set_option linter.unusedSimpArgs false

section
namespace Qv
open Go Go.RowKit
section
variable {E : Env} {G : Ghost} {S : ASt} {a : Act} {w : World} {o : Oper} {K : FV → Prop}
def RepL (G : Ghost) (w : World) (cs : List Value) (xs : List FV) : Prop :=
 cs.length = xs.length ∧ ∀ (i : Nat) (c : Value) (x : FV),cs[i]? = some c → xs[i]? = some x → RepF G w c x
theorem mapP_eq (xs : List AV) : mapP xs = xs.map FV.p := by
 induction xs with
 | nil => rfl
 | cons x xs ih => simp [mapP,ih]
theorem allOne_iff {xs : List FV} : allOne xs = true ↔ ∀ x,x ∈ xs → x.one = true := by
 induction xs with
 | nil => simp [allOne]
 | cons x xs ih =>
   simp only [allOne]
   cases hx : x.one <;> simp [hx,ih]
theorem cells_rep {v : Value} {x : FV} (h : RepF G w v x) (h1 : allOne x.cells = true) : RepL G w v.cells.toList x.cells ∧ (∀ u,u ∈ v.cells.toList → u.oneCell' = true) := by
 have one : ∀ {cs : List Value} {xs : List FV},RepL G w cs xs → allOne xs = true → ∀ u,u ∈ cs → u.oneCell' = true := fun {cs xs} hr ho u hu => by
  obtain ⟨i,hi⟩ := List.mem_iff_getElem?.1 hu
  have hl : i < xs.length := by rw [← hr.1]; exact (List.getElem?_eq_some_iff.1 hi).1
  exact (hr.2 i u _ hi (List.getElem?_eq_getElem hl)).oneV (allOne_iff.1 ho _ (List.getElem_mem hl))
 have single : ∀ {v : Value} {x : FV},RepF G w v x → v.cells = #[v] → RepL G w v.cells.toList [x] := fun {v x} h hv => by
  rw [hv]
  refine ⟨rfl,fun i c y hc hy => ?_⟩
  cases i with
  | zero => simp at hc hy; subst hc; subst hy; exact h
  | succ i => simp at hc
 have key : RepL G w v.cells.toList x.cells := by
  cases h with
  | p v x h =>
    cases h with
    | agg cs xs hl ho hc =>
      simp only [FV.cells,Value.cells,mapP_eq]
      refine ⟨by simp [hl],fun i c y h2 h3 => ?_⟩
      rw [List.getElem?_map] at h3
      cases hx : xs[i]? with
      | none => simp [hx] at h3
      | some z => simp [hx] at h3; subst h3; exact .p _ _ (hc i c z (by simpa using h2) hx)
    | tup cs xs hl hc => simp [FV.cells,allOne,FV.one,AV.one] at h1
    | _ => exact single (.p _ _ (by constructor <;> assumption)) rfl
  | agg cs xs hl hc => exact ⟨by simpa [Value.cells,FV.cells] using hl,fun i c y h2 h3 => hc i c y (by simpa [Value.cells] using h2) h3⟩
  | tup cs xs hl hc => simp [FV.cells,allOne,FV.one] at h1
  | junk v => simp [FV.cells,allOne,FV.one] at h1
  | ptr o off b h => exact single (.ptr o off b h) rfl
  | tip t T esz xs a c h3 h4 => exact single (.tip t T esz xs a c h3 h4) rfl
  | yld l k h => exact single (.yld l k h) rfl
  | osl o T esz n c b q1 q2 q3 q4 => exact single (.osl o T esz n c b q1 q2 q3 q4) rfl
  | eptr o base off b h => exact single (.eptr o base off b h) rfl
  | mapr o b h => exact single (.mapr o b h) rfl
  | itr o b h => exact single (.itr o b h) rfl
  | full xs a h => exact single (.full xs a h) rfl
  | fn f fs cs first captured a b c d => exact single (.fn f fs cs first captured a b c d) rfl
 exact ⟨key,one key h1⟩
theorem setN_some {α : Type} {xs zs : List α} {n : Nat} {y : α} (h : setN xs n y = some zs) : n < xs.length ∧ zs = xs.set n y := by
 induction xs generalizing n zs with
 | nil => simp [setN] at h
 | cons x xs ih =>
   cases n with
   | zero => simp [setN] at h; simp [h]
   | succ n =>
     simp only [setN] at h
     split at h
     ·rename_i us hu
      obtain rfl := Option.some.inj h
      obtain ⟨h1,rfl⟩ := ih hu
      simp [h1]
     ·cases h
theorem setRange_some {α : Type} {xs zs : List α} {n : Nat} {ys : List α} (h : setRange xs n ys = some zs) :
 zs.length = xs.length ∧ (ys ≠ [] → n + ys.length ≤ xs.length) ∧ ∀ (i : Nat),zs[i]? = if n ≤ i ∧ i < n + ys.length then ys[i - n]? else xs[i]? := by
 induction ys generalizing xs n with
 | nil =>
   simp only [setRange,Option.some.injEq] at h
   subst h
   refine ⟨rfl,fun h => absurd rfl h,fun i => ?_⟩
   rw [if_neg (by simp)]
 | cons y ys ih =>
   simp only [setRange] at h
   split at h
   ·rename_i us hu
    obtain ⟨h1,rfl⟩ := setN_some hu
    obtain ⟨h2,h3,h4⟩ := ih h
    refine ⟨by simpa using h2,fun _ => ?_,fun i => ?_⟩
    ·cases ys with
     | nil => simp; omega
     | cons z ys => have := h3 (by simp); simp at this ⊢; omega
    ·rw [h4 i]
     by_cases hi : i = n
     ·subst hi
      rw [if_neg (by omega),if_pos (by simp)]
      simp [h1]
     ·by_cases hlt : n + 1 ≤ i ∧ i < n + 1 + ys.length
      ·rw [if_pos hlt,if_pos (by simp; omega)]
       have : i - n = (i - (n + 1)) + 1 := by omega
       rw [this,List.getElem?_cons_succ]
      ·rw [if_neg hlt,if_neg (by simp; omega),List.getElem?_set_ne (Ne.symm hi)]
   ·cases h
theorem foldl_set_spec (vs : List Value) (off : Nat) : ∀ (k : Nat) (cs : Array Value),
 let r := (vs.zipIdx k).foldl (fun cs (c,j) => cs.setIfInBounds (off + j) c) cs
 r.size = cs.size ∧ ∀ i,i < cs.size → r[i]? = if off + k ≤ i ∧ i < off + k + vs.length then vs[i - (off + k)]? else cs[i]? := by
 induction vs with
 | nil => intro k cs; refine ⟨rfl,fun i hi => ?_⟩; rw [if_neg (by simp)]; rfl
 | cons v vs ih =>
   intro k cs
   simp only [List.zipIdx_cons,List.foldl_cons]
   obtain ⟨h1,h2⟩ := ih (k + 1) (cs.setIfInBounds (off + k) v)
   refine ⟨by simpa using h1,fun i hi => ?_⟩
   rw [h2 i (by simpa using hi)]
   by_cases he : i = off + k
   ·subst he
    rw [if_neg (by omega),if_pos (by simp)]
    simp [hi]
   ·by_cases hlt : off + (k + 1) ≤ i ∧ i < off + (k + 1) + vs.length
    ·rw [if_pos hlt,if_pos (by simp; omega)]
     have : i - (off + k) = (i - (off + (k + 1))) + 1 := by omega
     rw [this,List.getElem?_cons_succ]
    ·rw [if_neg hlt,if_neg (by simp; omega)]
     rw [Array.getElem?_setIfInBounds_ne (Ne.symm he)]
theorem fill_one {place : Nat → Option (Nat × Nat)} {cells : Array Value} {i off size : Nat} {v : Value} {rest : List (Nat × Value)}
 (hp : place i = some (off,size)) (hs : v.cells.size = size) (hb : off + size ≤ cells.size) :
 Instr.fill place cells ((i,v) :: rest) = Instr.fill place (v.cells.zipIdx.foldl (fun cs (c,j) => cs.setIfInBounds (off + j) c) cells) rest := by
 have hne : ¬ (v.cells.size ≠ size ∨ off + v.cells.size > cells.size) := by rw [hs]; omega
 simp only [Instr.fill,hp]
 rw [if_neg (by simpa using hne)]
theorem fill_step {cells : Array Value} {xs zs : List FV} {off : Nat} {v : Value} {x : FV} (hr : RepL G w cells.toList xs) (hv : RepF G w v x) (h1 : allOne x.cells = true)
 (hset : setRange xs off x.cells = some zs) (hne : v.cells.size = 0 → off ≤ cells.size) :
 off + v.cells.size ≤ cells.size ∧ RepL G w (v.cells.zipIdx.foldl (fun cs (c,j) => cs.setIfInBounds (off + j) c) cells).toList zs := by
 obtain ⟨hcr,hco⟩ := cells_rep hv h1
 obtain ⟨g1,g2,g3⟩ := setRange_some hset
 have hlen : v.cells.size = x.cells.length := by rw [← hcr.1]; simp
 have hsz : cells.size = xs.length := by rw [← hr.1]; simp
 have hb : off + v.cells.size ≤ cells.size := by
  by_cases h0 : x.cells = []
  ·have hl0 : v.cells.size = 0 := by rw [hlen,h0]; rfl
   have := hne hl0
   omega
  ·have := g2 h0; omega
 refine ⟨hb,?_⟩
 have hf := foldl_set_spec v.cells.toList off 0 cells
 have he : v.cells.zipIdx.foldl (fun cs (c,j) => cs.setIfInBounds (off + j) c) cells = (v.cells.toList.zipIdx 0).foldl (fun cs (c,j) => cs.setIfInBounds (off + j) c) cells := by
  rw [← Array.foldl_toList,Array.toList_zipIdx]
 rw [he]
 obtain ⟨f1,f2⟩ := hf
 refine ⟨by rw [Array.length_toList,f1,g1,hsz],fun i c y hc hy => ?_⟩
 have hi : i < cells.size := by
  have := (List.getElem?_eq_some_iff.1 hy).1
  omega
 rw [g3 i] at hy
 rw [Array.getElem?_toList,f2 i hi] at hc
 simp only [Nat.add_zero] at hc
 by_cases hin : off ≤ i ∧ i < off + x.cells.length
 ·rw [if_pos hin] at hy
  rw [if_pos (by rw [hcr.1]; exact hin)] at hc
  exact hcr.2 _ _ _ hc hy
 ·rw [if_neg hin] at hy
  rw [if_neg (by rw [hcr.1]; exact hin)] at hc
  exact hr.2 i c y (by simpa using hc) hy
theorem repL_zero (zs : List Value) : RepL G w zs (zs.map FV.ofVal1) :=
 ⟨by simp,fun i c x hc hx => by
  rw [List.getElem?_map,hc] at hx
  simp only [Option.map_some,Option.some.injEq] at hx
  subst hx
  exact repF_ofVal1 _ _ _⟩
theorem placeParts_fill (hs : SimG E G S a w) {fs : List (Nat × TypeId)} {gs : Array Field} (hfs : fs = gs.toList.map fun f => (f.offset,f.type)) :
 ∀ (parts : List (Nat × Operand)) (cells : Array Value) (xs zs : List FV),RepL G w cells.toList xs → placeParts fs E.C.tab S parts xs = some zs →
   ∃ cs,Instr.fill ((gs.map fun f => (f.offset,E.C.P.cellsOf f.type))[·]?) cells (parts.map fun (i,x) => (i,a.eval x)) = some cs ∧ RepL G w cs.toList zs := by
 intro parts
 induction parts with
 | nil =>
   intro cells xs zs hr h
   simp only [placeParts,Option.some.injEq] at h
   exact ⟨cells,rfl,h ▸ hr⟩
 | cons p parts ih =>
   obtain ⟨i,x⟩ := p
   intro cells xs zs hr h
   simp only [placeParts] at h
   split at h
   ·cases h
   ·rename_i off t r hd
    split at h
    ·cases h
    ·rename_i j hj
     split at h
     ·rename_i hz hlen h1
      split at h
      ·cases h
      ·rename_i us hu
       have hv := RepF.val hs x
       have hlen' : (S.val x).cells.length = j.size := Nat.eq_of_beq_eq_true hlen
       have hgi : gs.toList[i]?.map (fun f => (f.offset,f.type)) = some (off,t) := by
        have := dropN_head hd
        rwa [hfs,List.getElem?_map] at this
       obtain ⟨inf,z,hinf,hsz,-⟩ := (E.C.ok hj).info'
       have hcs : E.C.P.cellsOf t = j.size := by simp [Program.cellsOf,hinf,hsz]
       have hp : (gs.map fun f => (f.offset,E.C.P.cellsOf f.type))[i]? = some (off,j.size) := by
        rw [Array.getElem?_map]
        cases hg : gs[i]? with
        | none => simp [hg] at hgi
        | some g =>
          rw [Array.getElem?_toList,hg] at hgi
          simp only [Option.map_some,Option.some.injEq,Prod.mk.injEq] at hgi
          simp [hgi.1,hgi.2,hcs]
       have hcr := (cells_rep hv h1).1
       have hvs : (a.eval x).cells.size = j.size := by rw [← hlen',← hcr.1]; simp
       have h0 : j.size ≠ 0 := Nat.ne_of_beq_eq_false hz
       obtain ⟨hb,hr'⟩ := fill_step hr hv h1 hu (fun e => by omega)
       obtain ⟨cs,h3,h4⟩ := ih _ _ _ hr' h
       refine ⟨cs,?_,h4⟩
       rw [List.map_cons,fill_one hp hvs (by omega)]
       exact h3
     ·cases h
theorem placeElems_fill (hs : SimG E G S a w) {size : Nat} :
 ∀ (parts : List (Nat × Operand)) (cells : Array Value) (xs zs : List FV),RepL G w cells.toList xs → placeElems size S parts xs = some zs →
   ∃ cs,Instr.fill (fun i => some (i * size,size)) cells (parts.map fun (i,x) => (i,a.eval x)) = some cs ∧ RepL G w cs.toList zs := by
 intro parts
 induction parts with
 | nil =>
   intro cells xs zs hr h
   simp only [placeElems,Option.some.injEq] at h
   exact ⟨cells,rfl,h ▸ hr⟩
 | cons p parts ih =>
   obtain ⟨i,x⟩ := p
   intro cells xs zs hr h
   simp only [placeElems] at h
   split at h
   ·rename_i hz hlen h1
    split at h
    ·cases h
    ·rename_i us hu
     have hv := RepF.val hs x
     have hlen' : (S.val x).cells.length = size := Nat.eq_of_beq_eq_true hlen
     have hcr := (cells_rep hv h1).1
     have hvs : (a.eval x).cells.size = size := by rw [← hlen',← hcr.1]; simp
     have h0 : size ≠ 0 := Nat.ne_of_beq_eq_false hz
     obtain ⟨hb,hr'⟩ := fill_step hr hv h1 hu (fun e => by omega)
     obtain ⟨cs,h3,h4⟩ := ih _ _ _ hr' h
     refine ⟨cs,?_,h4⟩
     rw [List.map_cons,fill_one rfl hvs (by omega)]
     exact h3
   ·cases h
theorem TabOK.zeroV {P : Program} {t : TypeId} {i : TInfo} (h : TabOK P t i) (w : World) : ∃ z,(zeroValue t).run P w = .ok z w ∧ z.cells.toList = i.zero := by
 obtain ⟨inf,z,h1,-,-,h2,h3⟩ := h.info'
 exact ⟨z,by simp [zeroValue,run_typeInfo w h1,h2],h3⟩
theorem placesOf_spec (C : Ctx) {fs : List (Nat × TypeId)} {ps : List (Nat × Nat)} (h : placesOf C.tab fs = some ps) :
 ∀ (gs : List Field),fs = gs.map (fun f => (f.offset,f.type)) → gs.mapM (fun f => (C.P.info? f.type).map fun i => (f.offset,i.size)) = some ps ∧ ps = gs.map fun f => (f.offset,C.P.cellsOf f.type) := by
 induction fs generalizing ps with
 | nil =>
   intro gs hg
   simp only [placesOf,Option.some.injEq] at h
   have : gs = [] := by simpa using hg.symm
   subst this; subst h; simp
 | cons p fs ih =>
   obtain ⟨o,t⟩ := p
   intro gs hg
   cases gs with
   | nil => simp at hg
   | cons g gs =>
     simp only [List.map_cons,List.cons.injEq,Prod.mk.injEq] at hg
     obtain ⟨⟨rfl,rfl⟩,hg⟩ := hg
     simp only [placesOf] at h
     split at h
     ·cases h
     ·rename_i j hj
      split at h
      ·cases h
      ·rename_i qs hqs
       obtain rfl := Option.some.inj h
       obtain ⟨h1,h2⟩ := ih hqs gs hg
       obtain ⟨inf,z,hinf,hsz,-⟩ := (C.ok hj).info'
       simp only [List.mapM_cons,hinf,Option.map_some,h1]
       simp [hsz,h2,Program.cellsOf,hinf]
theorem yields_build (hs : SimG E G S a w) {t : TypeId} {parts : Array (Nat × Operand)} (ho : o.op = .build t parts) (h : evBuild E.C S t parts.toList K) : Yields E G a w o K := by
 unfold evBuild at h
 split at h
 ·rename_i fs zero ht
  have hok := E.C.ok ht
  obtain ⟨gs,hu,hfs⟩ := hok.struct
  obtain ⟨inf,z,hinf,-,-,hz,hzc⟩ := hok.info'
  split at h
  ·exact h.elim
  ·rename_i ps hps
   split at h
   ·rename_i cs hcs
    rw [forceL_eq] at h
    obtain ⟨p1,p2⟩ := placesOf_spec E.C hps gs.toList hfs
    obtain ⟨us,h3,h4⟩ := placeParts_fill hs hfs parts.toList z.cells _ _ (hzc ▸ repL_zero _) hcs
    have hb : E.C.P.built t (parts.toList.map fun (i,x) => (i,a.eval x)) = some us := by
     unfold Program.built
     simp only [hinf,hu,hz,p1]
     rw [p2]
     simpa using h3
    have hrun := run_build (P := E.C.P) w t (parts.map fun (i,x) => (i,a.eval x)) us (by simpa using hb)
    exact Yields.same (by simp only [execOp,ho,Sem.run_bind,hrun,Result.andThen_ok]; rfl) h (by simpa using RepF.agg us.toList cs h4.1 h4.2)
   ·exact h.elim
 ·rename_i n e zero ht
  have hok := E.C.ok ht
  have hu := hok.array
  obtain ⟨inf,z,hinf,-,-,hz,hzc⟩ := hok.info'
  split at h
  ·exact h.elim
  ·rename_i j hj
   obtain ⟨inf',z',hinf',hsz',-⟩ := (E.C.ok hj).info'
   split at h
   ·rename_i cs hcs
    rw [forceL_eq] at h
    obtain ⟨us,h3,h4⟩ := placeElems_fill hs parts.toList z.cells _ _ (hzc ▸ repL_zero _) hcs
    have hb : E.C.P.built t (parts.toList.map fun (i,x) => (i,a.eval x)) = some us := by
     unfold Program.built
     simp only [hinf,hu,hz,hinf',hsz']
     exact h3
    have hrun := run_build (P := E.C.P) w t (parts.map fun (i,x) => (i,a.eval x)) us (by simpa using hb)
    exact Yields.same (by simp only [execOp,ho,Sem.run_bind,hrun,Result.andThen_ok]; rfl) h (by simpa using RepF.agg us.toList cs h4.1 h4.2)
   ·exact h.elim
 ·exact h.elim
theorem repl_get {α : Type} (xs : List α) (n : Nat) : (repl n xs).length = n * xs.length ∧ ∀ i,i < n * xs.length → (repl n xs)[i]? = xs[i % xs.length]? := by
 induction n with
 | zero => simp [repl]
 | succ n ih =>
   refine ⟨by simp [repl,ih.1,Nat.add_mul,Nat.add_comm],fun i hi => ?_⟩
   simp only [repl]
   by_cases h : i < xs.length
   ·rw [List.getElem?_append_left h,Nat.mod_eq_of_lt h]
   ·rw [List.getElem?_append_right (by omega),ih.2 _ (by rw [Nat.add_mul] at hi; omega)]
    congr 1
    exact (Nat.mod_eq_sub_mod (by omega)).symm
theorem repl_map {α β : Type} (f : α → β) (xs : List α) (n : Nat) : repl n (xs.map f) = (repl n xs).map f := by
 induction n with
 | zero => rfl
 | succ n ih => simp [repl,ih]
theorem chunk_get {α : Type} (size : Nat) : ∀ (n : Nat) (xs : List α),(chunk size n xs).length = n ∧ ∀ i zs,(chunk size n xs)[i]? = some zs → zs = (xs.drop (i * size)).take size := by
 intro n
 induction n with
 | zero => intro xs; simp [chunk]
 | succ n ih =>
   intro xs
   obtain ⟨h1,h2⟩ := ih (xs.drop size)
   refine ⟨by simp [chunk,h1],fun i zs h => ?_⟩
   cases i with
   | zero => simp [chunk] at h; simp [h]
   | succ i =>
     simp only [chunk,List.getElem?_cons_succ] at h
     rw [h2 i zs h,List.drop_drop,Nat.add_mul,Nat.one_mul,Nat.add_comm]
theorem toAV_one {x : FV} {y : AV} (h : x.one = true) (hy : x.toAV = some y) : y.one = true := by
 cases x with
 | p z => simp only [FV.toAV,Option.some.injEq] at hy; subst hy; exact h
 | agg xs => simp [FV.one] at h
 | tup xs => simp [FV.one] at h
 | ptr o off => simp [FV.toAV] at hy
 | tip t T e xs => simp only [FV.toAV,Option.some.injEq] at hy; subst hy; rfl
 | yld l => simp [FV.toAV] at hy
 | osl o T e => simp [FV.toAV] at hy
 | eptr o b off => simp [FV.toAV] at hy
 | mapr o => simp [FV.toAV] at hy
 | itr o => simp [FV.toAV] at hy
 | full xs => simp only [FV.toAV,Option.some.injEq] at hy; subst hy; rfl
 | fn f a b =>
   simp only [FV.toAV] at hy
   split at hy
   ·split at hy
    ·obtain rfl := Option.some.inj hy; rfl
    ·cases hy
   ·cases hy
 | junk => simp [FV.one] at h
theorem buildSlice_core (hs : SimG E G S a w) {t : TypeId} {len : Nat} {parts : Array (Nat × Operand)} (ho : o.op = .buildSlice t len parts)
 (h : evBuildSlice E.C S t len parts.toList K) : ∃ (xs : List (List AV)) (us : Array Value) (e : TypeId) (j : TInfo),(∃ a b z,tabGet E.C.tab t = some ⟨a,b,.slice e,z⟩) ∧ tabGet E.C.tab e = some j ∧ K (.full xs) ∧
  (execOp a.eval o).run E.C.P w = .ok (.value (.slice (some ⟨w.heap.size,0,none⟩) xs.length xs.length)) (w.alloc (.cells us e)) ∧ (∀ zs,zs ∈ xs → zs.length = j.size) ∧
  Rep (fun b o => G.imm b o ∨ (w.heap.size ≤ b ∧ b < (w.alloc (.cells us e)).heap.size ∧ o < xs.length * j.size)) (w.alloc (.cells us e)) (.slice (some ⟨w.heap.size,0,none⟩) xs.length xs.length) (.sl xs) := by
 unfold evBuildSlice at h
 split at h
 ·rename_i e _ ht
  have hu := (E.C.ok ht).slice
  split at h
  ·exact h.elim
  ·rename_i j hj
   have hok := E.C.ok hj
   split at h
   ·exact h.elim
   ·rename_i hle
    have hle' : len * j.size ≤ 1000000 := Nat.le_of_ble_eq_true hle
    split at h
    ·rename_i cs hcs
     split at h
     ·exact h.elim
     ·rename_i h1
      split at h
      ·rename_i ys hys
       obtain ⟨z,hzr,hzc⟩ := hok.zeroV w
       have hzsz : z.cells.size = j.size := by rw [← Array.length_toList,hzc,hok.len]
       have hbase : ∀ zz : Array Value,(len * j.size = 0 ∨ zz = z.cells) → ((Array.range (len * j.size)).map (zz[· % zz.size]!)).toList = repl len j.zero := fun zz hzz => by
        obtain ⟨r1,r2⟩ := repl_get j.zero len
        rw [hok.len] at r1 r2
        apply List.ext_getElem?
        intro i
        by_cases hi : i < len * j.size
        ·rcases hzz with h0 | rfl
         ·omega
         ·rw [r2 i hi,← hzc,hzsz]
          have hjp : 0 < j.size := by
           rcases Nat.eq_zero_or_pos j.size with h0 | h0
           ·rw [h0] at hi; simp at hi
           ·exact h0
          have hm : i % j.size < z.cells.size := by rw [hzsz]; exact Nat.mod_lt _ hjp
          simp [hi,hm]
        ·rw [List.getElem?_eq_none (by simp; omega),List.getElem?_eq_none (by omega)]
       have hrl : ∀ zz : Array Value,(len * j.size = 0 ∨ zz = z.cells) → RepL G w ((Array.range (len * j.size)).map (zz[· % zz.size]!)).toList (repl len (j.zero.map FV.ofVal1)) := fun zz hzz => by
        rw [hbase zz hzz,repl_map]
        exact repL_zero _
       obtain ⟨us,hus,hrep⟩ : ∃ us,(∀ zz : Array Value,(len * j.size = 0 ∨ zz = z.cells) → Instr.fill (fun i => some (i * j.size,j.size)) ((Array.range (len * j.size)).map (zz[· % zz.size]!)) (parts.toList.map fun (i,x) => (i,a.eval x)) = some us) ∧ RepL G w us.toList cs := by
        obtain ⟨us,h3,h4⟩ := placeElems_fill hs parts.toList _ _ _ (hrl z.cells (.inr rfl)) hcs
        refine ⟨us,fun zz hzz => ?_,h4⟩
        have : (Array.range (len * j.size)).map (zz[· % zz.size]!) = (Array.range (len * j.size)).map (z.cells[· % z.cells.size]!) := Array.toList_inj.1 ((hbase zz hzz).trans (hbase z.cells (.inr rfl)).symm)
        rw [this]; exact h3
       have hbig : ¬ len * j.size > 2 ^ 24 := by omega
       have hrun : (execOp a.eval o).run E.C.P w = .ok (.value (.slice (some ⟨w.heap.size,0,none⟩) len len)) (w.alloc (.cells us e)) := by
        by_cases h0 : len * j.size = 0
        ·have h5 := hus #[] (.inl h0)
         have h5' : Instr.fill (fun i => some (i * j.size,j.size)) #[] (List.map (fun x => (x.1,a.eval x.2)) parts.toList) = some us := by
          have h6 : (Array.range (len * j.size)).map ((#[] : Array Value)[· % (#[] : Array Value).size]!) = #[] := by rw [h0]; simp
          rw [h6] at h5; exact h5
         have hm0 : ∀ f : Nat → Value,(Array.range 0).map f = #[] := fun f => by simp
         simp only [execOp,ho,Instr.buildSlice,Sem.run_bind,run_underlying hu,Result.andThen_ok,hok.sizeOf,hbig,if_false,h0,if_true,Sem.run_pure,Array.toList_map]
         simp only [show ¬ (0 > 2 ^ 24) from by omega,if_false,Sem.run_pure,Result.andThen_ok,hm0,h5']
         simp [newRow]
        ·have h5 := hus z.cells (.inr rfl)
         simp only [execOp,ho,Instr.buildSlice,Sem.run_bind,run_underlying hu,Result.andThen_ok,hok.sizeOf,hbig,if_false,h0,Sem.run_pure,hzr,Array.toList_map]
         simp only [h5]
         simp [newRow]
       obtain ⟨y1,y2⟩ := FV.toAVs_get hys
       have hlen : us.size = len * j.size := by
        have h6 : us.size = cs.length := by rw [← hrep.1]; simp
        have h7 : ∀ (parts : List (Nat × Operand)) (xs zs : List FV),placeElems j.size S parts xs = some zs → zs.length = xs.length := by
         intro parts
         induction parts with
         | nil => intro xs zs h; simp only [placeElems,Option.some.injEq] at h; rw [h]
         | cons p parts ih =>
           obtain ⟨i,x⟩ := p
           intro xs zs h
           simp only [placeElems] at h
           split at h
           ·split at h
            ·cases h
            ·rename_i us hus
             rw [ih _ _ h,(setRange_some hus).1]
           ·cases h
        rw [h6,h7 _ _ _ hcs,(repl_get _ _).1]
        simp [hok.len]
       have hal : Below w.heap.size w (w.alloc (.cells us e)) := (Below.refl _ _).alloc (Nat.le_refl _) _
       obtain ⟨c1,c2⟩ := chunk_get j.size len ys
       have hcell : ∀ i,(w.alloc (.cells us e)).cell? ⟨w.heap.size,i,none⟩ = us[i]? := fun i => World.cell?_alloc_new w us e i
       have hlens : ∀ (i : Nat) (zs : List AV),(chunk j.size len ys)[i]? = some zs → zs.length = j.size := fun i zs hzs => by
        have hi : i < len := by rw [← c1]; exact (List.getElem?_eq_some_iff.1 hzs).1
        rw [c2 i zs hzs,List.length_take,List.length_drop,y1,← hrep.1,Array.length_toList,hlen]
        have : (i + 1) * j.size ≤ len * j.size := Nat.mul_le_mul_right _ hi
        rw [Nat.add_mul] at this
        omega
       have hfin : Rep (fun b o => G.imm b o ∨ (w.heap.size ≤ b ∧ b < (w.alloc (.cells us e)).heap.size ∧ o < len * j.size)) (w.alloc (.cells us e)) (.slice (some ⟨w.heap.size,0,none⟩) (chunk j.size len ys).length len) (.sl (chunk j.size len ys)) := by
        refine Rep.sl_mk (esz := j.size) (by omega) hlens (fun i zs k y hzs hy => ?_)
        ·have hi : i < len := by rw [← c1]; exact (List.getElem?_eq_some_iff.1 hzs).1
         have hk : k < j.size := by
          have h8 := (List.getElem?_eq_some_iff.1 hy).1
          rw [c2 i zs hzs,List.length_take] at h8
          omega
         rw [c2 i zs hzs,List.getElem?_take_of_lt hk,List.getElem?_drop] at hy
         obtain ⟨x,hx,hxy⟩ := y2 _ _ hy
         have hlt : i * j.size + k < us.size := by
          have h9 := (List.getElem?_eq_some_iff.1 hx).1
          rw [← Array.length_toList,hrep.1]; exact h9
         have hr := hrep.2 (i * j.size + k) us[i * j.size + k] x (by simp [hlt]) hx
         have hxo := allOne_iff.1 h1 x (List.mem_of_getElem? hx)
         refine ⟨us[i * j.size + k],toAV_one hxo hxy,?_,.inr ⟨Nat.le_refl _,by simp,by omega⟩,?_⟩
         ·rw [Nat.zero_add,hcell]; simp [hlt]
         ·refine (hr.toAV hxy).keep (fun b o hi => .inl hi) (fun b o c hi hc => ?_) (stands_alloc _ _ _)
          rw [World.cell?_alloc_lt _ _ _ (hs.immLt b o hi)]
          exact hc
       refine ⟨chunk j.size len ys,us,e,j,⟨_,_,_,ht⟩,hj,h,by rw [c1]; exact hrun,fun zs hz => ?_,by rw [c1] at hfin ⊢; exact hfin⟩
       obtain ⟨q,hq⟩ := List.getElem?_of_mem hz
       exact hlens q zs hq
      ·exact h.elim
    ·exact h.elim
 ·exact h.elim
theorem yields_buildSlice (hs : SimG E G S a w) {t : TypeId} {len : Nat} {parts : Array (Nat × Operand)} (ho : o.op = .buildSlice t len parts)
 (h : evBuildSlice E.C S t len parts.toList K) : Yields E G a w o K := by
 obtain ⟨xs,us,e,j,-,-,hK,hrun,-,hr⟩ := buildSlice_core hs ho h
 exact ⟨_,_,_,hrun,hK,(Below.refl _ _).alloc (Nat.le_refl _) _,.full xs _ (hr.keep (fun b o h => h.imp id fun h => ⟨h.1,h.2.1⟩) (fun _ _ _ _ h => h) (.refl _ _))⟩
end
end Qv

end

section
namespace Qv
open Go Go.RowKit
theorem TabOK.map {P : Program} {t k e : TypeId} {a b : Nat} {z : List Value} (h : TabOK P t ⟨a,b,.map k e,z⟩) : P.underlying t = some (.map k e) := by
 obtain ⟨d,h1,h2⟩ := h.und'
 cases d <;> simp [shapeOf] at h2
 rw [h1,h2.1,h2.2]
theorem keysOf_eq {α : Type} (l : List (AV × α)) : keysOf l = l.map (·.1) := by
 induction l with
 | nil => rfl
 | cons p l ih => obtain ⟨k,x⟩ := p; simp [keysOf,ih]
theorem valsOf_eq {α : Type} (l : List (AV × α)) : valsOf l = l.map (·.2) := by
 induction l with
 | nil => rfl
 | cons p l ih => obtain ⟨k,x⟩ := p; simp [valsOf,ih]
theorem zipA_get {α : Type} {ks : List AV} {xs : List α} (h : ks.length = xs.length) : (zipA ks xs).length = ks.length ∧ ∀ (i : Nat) (p : AV × α),(zipA ks xs)[i]? = some p → ks[i]? = some p.1 ∧ xs[i]? = some p.2 := by
 induction ks generalizing xs with
 | nil => cases xs <;> simp_all [zipA]
 | cons k ks ih =>
   cases xs with
   | nil => simp at h
   | cons x xs =>
     obtain ⟨h1,h2⟩ := ih (by simpa using h)
     refine ⟨by simp [zipA,h1],fun i p hp => ?_⟩
     cases i with
     | zero => simp [zipA] at hp; subst hp; exact ⟨rfl,rfl⟩
     | succ i => simp [zipA] at hp; simpa using h2 i p hp
theorem findM_locate {α : Type} (k : AV) (l : List (AV × α)) : findM k l = (locate k (keysOf l)).bind fun j => (l[j]?).map (·.2) := by
 induction l with
 | nil => rfl
 | cons p l ih =>
   obtain ⟨k',x⟩ := p
   simp only [findM,keysOf,locate]
   cases hs : sameA k k' with
   | true => simp
   | false =>
     simp only [ih]
     cases locate k (keysOf l) with
     | none => rfl
     | some j => simp
section
variable {E : Env} {G : Ghost} {S : ASt} {a : Act} {w : World} {o : Oper} {K : FV → Prop}
theorem entries_rep (hs : SimG E G S a w) {v : Value} {x : FV} {l : List (AV × FV)} (hx : RepF G w v x) (h : x.entries S.maps = some l) :
 ∃ es : List MapEntry,((v = .map none ∧ es = []) ∨ ∃ b clk,v = .map (some b) ∧ w.heap[b]? = some (.map es.toArray clk)) ∧ es.length = l.length ∧
   ∀ (i : Nat) (e : MapEntry) (p : AV × FV),es[i]? = some e → l[i]? = some p → Rep G.imm w e.key p.1 ∧ RepF G w e.val p.2 := by
 cases x with
 | mapr ob =>
   cases hx with
   | mapr _ b hb =>
     obtain ⟨b',clk,es,h1,h2,h3,h4,h5⟩ := hs.ext'.mps.at_ ob l h
     rw [hb] at h1
     obtain rfl := Option.some.inj h1
     exact ⟨es,.inr ⟨_,clk,rfl,h2⟩,h4,h5⟩
 | p y =>
   cases hx with
   | p _ _ hx =>
   cases hx with
   | nilm =>
     simp only [FV.entries,Option.some.injEq] at h
     subst h
     exact ⟨[],.inl ⟨rfl,rfl⟩,rfl,by simp⟩
   | mp b clk es ks vs h1 h2 h3 h4 h5 h6 h7 =>
     simp only [FV.entries,Option.some.injEq] at h
     subst h
     obtain ⟨z1,z2⟩ := zipA_get (ks := ks) (xs := mapP vs) (by rw [mapP_eq,List.length_map]; omega)
     refine ⟨es,.inr ⟨b,clk,rfl,h4⟩,by omega,fun i e p he hp => ?_⟩
     obtain ⟨q1,q2⟩ := z2 i p hp
     refine ⟨h6 i e _ he q1,?_⟩
     rw [mapP_eq,List.getElem?_map] at q2
     cases hv : vs[i]? with
     | none => simp [hv] at q2
     | some y =>
       simp only [hv,Option.map_some,Option.some.injEq] at q2
       rw [← q2]
       exact .p _ _ (h7 i e y he hv)
   | _ => simp [FV.entries] at h
 | _ => simp [FV.entries] at h
theorem keysAre {l : List (AV × FV)} {es : List MapEntry} {agg : Bool} {L : List Leaf} {imm : Nat → Nat → Prop} (hl : es.length = l.length) (hr : ∀ (i : Nat) (e : MapEntry) (p : AV × FV),es[i]? = some e → l[i]? = some p → Rep imm w e.key p.1)
 (hf : ∀ p,p ∈ l → fitsK agg L p.1 = true) : KeysAre agg L es (keysOf l) := by
 refine ⟨by rw [keysOf_eq,List.length_map]; exact hl,fun i e x he hx => ?_⟩
 rw [keysOf_eq,List.getElem?_map] at hx
 cases hp : l[i]? with
 | none => simp [hp] at hx
 | some p =>
   simp only [hp,Option.map_some,Option.some.injEq] at hx
   subst hx
   have := hf p (List.mem_of_getElem? hp)
   exact ⟨fitsK_rep (hr i e p he hp) this,this⟩
theorem run_zero {P : Program} {w : World} {e : TypeId} {z : Value} (h : (P.info? e).map (·.zero) = some (some z)) : (zeroValue e).run P w = .ok z w := by
 cases hi : P.info? e with
 | none => simp [hi] at h
 | some i =>
   simp only [hi,Option.map_some,Option.some.injEq] at h
   simp [zeroValue,run_typeInfo w hi,h]
theorem okV_rep {ok : Bool} {v : Value} {x : FV} (h : RepF G w v x) (b : Bool) : RepF G w (if ok then .tuple #[v,.bool b] else v) (okV ok x b) := by
 cases ok with
 | false => exact h
 | true =>
   refine .tup [v,.bool b] [x,.p (.bool b)] rfl fun i c y h1 h2 => ?_
   match i,h1,h2 with
   | 0,h1,h2 => cases h1; cases h2; exact h
   | 1,h1,h2 => cases h1; cases h2; exact .p _ _ (.bool b)
theorem yields_lookup (hs : SimG E G S a w) {t : TypeId} {x i : Operand} {ok : Bool} (ho : o.op = .lookup t x i ok) (h : evLookup E.C S.maps t (S.val x) (S.val i) ok K) : Yields E G a w o K := by
 have hx := RepF.val hs x
 have hi := RepF.val hs i
 unfold evLookup at h
 split at h
 ·rename_i kT eT _ ht
  have hu := (E.C.ok ht).map
  split at h
  ·rename_i ki kk l hki hkk hl
   obtain ⟨L,hL,hk,hall,r,hr,h⟩ := h
   have hagg := (E.C.ok hki).aggT
   rw [← hagg] at hk hall
   have hkey := fitsK_rep (hi.toAV hkk) hk
   obtain ⟨es,hv,hlen,hent⟩ := entries_rep hs hx hl
   have hka := keysAre (w := w) hlen (fun i e p a b => (hent i e p a b).1) hall
   have hchk := fun em => (check_leaves (P := E.C.P) (em := em) 40).1 kT L 10000 w kk.cells (by decide) hL (fitsK_cells hk)
   have hfind := run_findKey' (w := w) (by decide) hL hk hka
   rw [findM_locate] at hr
   have hrun : ∀ res : Option (Nat × Value),found es 0 (locate kk (keysOf l)) = res → ∀ v,(match res with | some (_,v') => v = (if ok then .tuple #[v',.bool true] else v') | none => ∃ z,(E.C.P.info? eT).map (·.zero) = some (some z) ∧ v = (if ok then .tuple #[z,.bool false] else z)) →
    (Instr.lookup t (a.eval x) (a.eval i) ok).run E.C.P w = .ok v w := by
    intro res hres v hvv
    rw [hres] at hfind
    rw [hkey]
    rcases hv with ⟨e1,rfl⟩ | ⟨b,clk,e1,e2⟩
    ·rw [e1]
     cases res with
     | none =>
       obtain ⟨z,hz,rfl⟩ := hvv
       simp [Instr.lookup,run_underlying hu,hchk,hfind,run_zero hz]
     | some q => simp [found] at hres
    ·rw [e1]
     have hg : (Go.getObj b).run E.C.P w = .ok (.map es.toArray clk) w := by simp [Go.getObj,Sem.run,e2]
     cases res with
     | none =>
       obtain ⟨z,hz,rfl⟩ := hvv
       simp [Instr.lookup,run_underlying hu,hg,hchk,hfind,run_zero hz]
     | some q =>
       obtain ⟨j,v'⟩ := q
       subst hvv
       simp [Instr.lookup,run_underlying hu,hg,hchk,hfind]
   cases hloc : locate kk (keysOf l) with
   | none =>
     rw [hloc] at hr
     simp only [Option.bind_none] at hr
     subst hr
     obtain ⟨z,hz,hK⟩ := h
     have := hrun none (by rw [hloc]; rfl) _ ⟨z,hz,rfl⟩
     exact Yields.same (by simp [execOp,ho,this]) hK (okV_rep (repF_ofVal _ _ _) false)
   | some j =>
     rw [hloc] at hr
     have hj : j < (keysOf l).length := by
      have : ∀ (ks : List AV) (j : Nat),locate kk ks = some j → j < ks.length := by
       intro ks
       induction ks with
       | nil => intro j h; simp [locate] at h
       | cons x ks ih =>
         intro j h
         simp only [locate] at h
         split at h
         ·obtain rfl := Option.some.inj h; simp
         ·cases hq : locate kk ks with
          | none => simp [hq] at h
          | some m =>
            simp only [hq,Option.map_some,Option.some.injEq] at h
            subst h
            have := ih m hq
            simp; omega
      exact this _ _ hloc
     rw [keysOf_eq,List.length_map] at hj
     have hje : j < es.length := by omega
     simp only [Option.bind_some,List.getElem?_eq_getElem hj,Option.map_some] at hr
     subst hr
     have := hrun (some (j,es[j].val)) (by rw [hloc]; simp [found,hje]) _ rfl
     exact Yields.same (by simp [execOp,ho,this]) h (okV_rep (hent j _ _ (List.getElem?_eq_getElem hje) (List.getElem?_eq_getElem hj)).2 true)
  ·exact h.elim
 ·exact h.elim
theorem yields_entry (hs : SimG E G S a w) {it : Operand} (ho : o.op = .entry it) (h : evEntry S (S.val it) K) : Yields E G a w o K := by
 have hx := RepF.val hs it
 unfold evEntry at h
 split at h
 ·rename_i q hq
  rw [hq] at hx
  split at h
  ·rename_i p l hl
   generalize hev : a.eval it = v at hx
   cases hx with
   | itr _ r hr =>
     obtain ⟨r',hr',hit⟩ := hs.ext'.mps.its q _ hl
     rw [hr] at hr'
     obtain rfl := Option.some.inj hr'
     rcases hit with ⟨h1,-⟩ | ⟨m,clk,es,seen,h1,h2,h3,h4,h5,h6⟩
     ·cases h1
     ·obtain ⟨e,s0,q1,rfl,q3,q4⟩ := h6 p rfl
      have hrun := run_entry_at (P := E.C.P) w r m clk s0 es.toArray clk e h1 h2 (by simpa using q1) (by simpa using h4.nd)
      refine Yields.same (v := .tuple #[e.key,e.val]) (by simp [execOp,ho,hev,hrun]) h ?_
      refine .tup [e.key,e.val] [.p p.1,.p p.2] rfl fun i c y h1 h2 => ?_
      match i,h1,h2 with
      | 0,h1,h2 => cases h1; cases h2; exact .p _ _ q3
      | 1,h1,h2 => cases h1; cases h2; exact .p _ _ q4
  ·exact h.elim
 ·exact h.elim
end
end Qv

end

section
namespace Qv
open Go Go.RowKit
section
variable {E : Env} {G : Ghost} {S : ASt} {a : Act} {w : World} {o : Oper}
def Env.fence (E : Env) : Fence := match E.rnd with
 | none => Fence.wide
 | some l => Fence.wide.inRound l
theorem Env.fence_fn (f : FuncId) : E.fence.fn f := by
 unfold Env.fence
 split <;> trivial
theorem Env.fence_depth : E.fence.depth = none := by
 unfold Env.fence
 split <;> rfl
theorem Env.fence_round : E.fence.round = E.rnd := by
 unfold Env.fence
 split <;> rename_i h <;> rw [h] <;> rfl
theorem callsIn_fence {P : Program} {f : FuncId} {args : Array Value} {w : World} {R : Ending → World → Prop} (h : Calls P f args w R) : CallsIn E.fence 0 P f args w R := by
 unfold Env.fence
 split
 ·exact callsIn_wide.2 h
 ·exact CallsIn.inRound _ (callsIn_wide.2 h)
abbrev Owp (E : Env) (o : Oper) (a : Act) (w : World) (next : Act → World → Prop) (Q : Exit → Act → World → Prop) : Prop := o.wpIn E.fence 0 E.C.P a w next Q
theorem not_defer {P : Program} {ρ : Operand → Value} {v : Value} {w' : World} (h : (execOp ρ o).run P w = .ok (.value v) w') : ∀ c,o.op ≠ .defer c := fun c hc => by
 unfold execOp at h
 rw [hc] at h
 simp only [Sem.run_bind] at h
 cases hr : (resolve ρ c o.type).run P w <;> simp [hr,Result.andThen] at h
theorem wp_value {v : Value} {w' : World} {next : Act → World → Prop} {Q : Exit → Act → World → Prop} (h : (execOp a.eval o).run E.C.P w = .ok (.value v) w') (hn : next (a.put o.dst v) w') : Owp E o a w next Q := by
 refine ⟨fun f _ => Env.fence_fn f,?_⟩
 rw [Oper.semAt_eq _ _ _ (not_defer h),h]
 exact hn
theorem wp_of_yields {K : FV → Prop} (hs : SimG E G S a w) (h : Yields E G a w o K) {next : Act → World → Prop} {Q : Exit → Act → World → Prop}
 (hn : ∀ x v G' w',K x → SimG E G' S a w' → RepF G' w' v x → next (a.put o.dst v) w') : Owp E o a w next Q := by
 obtain ⟨v,x,w',h1,h2,h3,h4⟩ := h
 exact wp_value h1 (hn x v _ w' h2 (hs.ext h3) h4)
theorem vals_rep (hs : SimG E G S a w) (args : List Operand) : (args.map a.eval).length = (args.map S.val).length ∧
 ∀ (i : Nat) (c : Value) (x : FV),(args.map a.eval)[i]? = some c → (args.map S.val)[i]? = some x → RepF G w c x := by
 refine ⟨by simp,fun i c x hc hx => ?_⟩
 rw [List.getElem?_map] at hc hx
 cases h0 : args[i]? with
 | none => simp [h0] at hc
 | some y => simp [h0] at hc hx; subst hc; subst hx; exact RepF.val hs y
theorem toAVs_rep {cs : List Value} {xs : List FV} {ys : List AV} (h : cs.length = xs.length ∧ ∀ (i : Nat) (c : Value) (x : FV),cs[i]? = some c → xs[i]? = some x → RepF G w c x)
 (hy : FV.toAVs xs = some ys) : cs.length = ys.length ∧ ∀ (i : Nat) (c : Value) (y : AV),cs[i]? = some c → ys[i]? = some y → Rep G.imm w c y := by
 obtain ⟨h1,h2⟩ := FV.toAVs_get hy
 refine ⟨by omega,fun i c y hc hy => ?_⟩
 obtain ⟨x,hx,hxy⟩ := h2 i y hy
 exact (h.2 i c x hc hx).toAV hxy
theorem append_rep {imm : Nat → Nat → Prop} {cs ds : List Value} {xs ys : List AV}
 (h : cs.length = xs.length ∧ ∀ (i : Nat) (c : Value) (x : AV),cs[i]? = some c → xs[i]? = some x → Rep imm w c x)
 (h' : ds.length = ys.length ∧ ∀ (i : Nat) (c : Value) (x : AV),ds[i]? = some c → ys[i]? = some x → Rep imm w c x) :
 (cs ++ ds).length = (xs ++ ys).length ∧ ∀ (i : Nat) (c : Value) (x : AV),(cs ++ ds)[i]? = some c → (xs ++ ys)[i]? = some x → Rep imm w c x := by
 refine ⟨by simp [h.1,h'.1],fun i c x hc hx => ?_⟩
 rw [List.getElem?_append] at hc hx
 by_cases hi : i < cs.length
 ·rw [if_pos hi] at hc
  rw [if_pos (by omega)] at hx
  exact h.2 i c x hc hx
 ·rw [if_neg hi] at hc
  rw [if_neg (by omega)] at hx
  rw [← h.1] at hx
  exact h'.2 _ c x hc hx
theorem run_call {P : Program} {ρ : Operand → Value} {f : Operand} {args : Array Operand} {types : Array TypeId} {g : FuncId} {first captured : Array Value} {fn : Func}
 (ho : o.op = .call ⟨.value f, args, types⟩) (hf : ρ f = .func (.func g) first captured) (h1 : P.funcs[g]? = some fn) (h2 : fn.body.isNone = false) (h3 : (fn.name == "runtime.NumGoroutine") = false) :
 (execOp ρ o).run P w = .ok (.enter g (first ++ args.map ρ ++ captured)) w := by
 have h3' : ¬ fn.name = "runtime.NumGoroutine" := by simpa using h3
 have h2' : ¬ fn.body = none := fun e => by rw [e] at h2; cases h2
 simp [execOp,ho,resolve,hf,Deferred.ofValue,invoke,callFunc,h1,h2',h3']
theorem wp_call (hs : SimG E G S a w) {f : Operand} {args : Array Operand} {types : Array TypeId} {g : FuncId} {first captured : Array Value} {xs : List AV} {R : Ret → Prop}
 (ho : o.op = .call ⟨.value f,args,types⟩) (hf : a.eval f = .func (.func g) first captured)
 (hr : (first ++ args.map a.eval ++ captured).toList.length = xs.length ∧ ∀ (i : Nat) (c : Value) (x : AV),(first ++ args.map a.eval ++ captured).toList[i]? = some c → xs[i]? = some x → Rep G.imm w c x)
 (hc : CallsTo E.C g xs R) {next : Act → World → Prop} {Q : Exit → Act → World → Prop}
 (hn : ∀ r v w',R r → Below w.heap.size w w' → RetOK G.imm w.heap.size w' v r → next (a.put o.dst v) w') : Owp E o a w next Q := by
 obtain ⟨⟨fn,h1,h2,h3⟩,hc⟩ := hc
 have hJ := hs.J
 have := hc G.imm w (first ++ args.map a.eval ++ captured).toList hJ.1 hJ.2 hs.immLt hr.1 hr.2
 refine ⟨fun f _ => Env.fence_fn f,?_⟩
 rw [Oper.semAt_eq _ _ _ (fun c => by rw [ho]; simp),run_call ho hf h1 h2 h3,Oper.uponIn_enter]
 refine ⟨fun h => (by rw [Env.fence_depth] at h; cases h),callsIn_fence (Calls.mono this ?_)⟩
 rintro e w' ⟨v,r,rfl,hR,hok,hb⟩
 exact hn r v w' hR hb hok
theorem RetOK.plainF {G : Ghost} {B : Nat} {w' : World} {v : Value} {r : Ret} (h : RetOK G.imm B w' v r) : RepF { G with imm := fun b o => G.imm b o ∨ (B ≤ b ∧ b < w'.heap.size) } w' v r.plain := by
 have conv : ∀ {imm' : Nat → Nat → Prop} {x : AV},(∀ b o,imm' b o → G.imm b o ∨ B ≤ b) → Rep imm' w' v x → Rep (fun b o => G.imm b o ∨ (B ≤ b ∧ b < w'.heap.size)) w' v x := fun h1 h2 =>
  h2.keep2 (fun b o c hi hc => ⟨(h1 b o hi).imp id fun h => ⟨h,World.block_lt_of_cell? w' _ hc⟩,hc⟩) fun b es k hi hb => ⟨(h1 b 0 hi).imp id fun h => ⟨h,(Array.getElem?_eq_some_iff.1 hb).1⟩,hb⟩
 cases r with
 | val x => exact .p _ _ (conv (fun b o h => h) h)
 | fresh T esz xs =>
   refine .p _ _ ?_
   obtain ⟨ad,c,rfl,h | ⟨b,off,cs,fr,-,-,-,-,-,-,h⟩⟩ := h
   ·exact conv (fun b o h => h) h.2.2
   ·exact conv (fun b o h => h.imp id fun h => h.1) h
 | vf x =>
   refine RepF.keep2 (G := bare (immOr G.imm B)) h (fun b o c hi hc => ⟨?_,hc⟩) (fun b es k hi hb => ⟨hi.imp id fun h => ⟨h,(Array.getElem?_eq_some_iff.1 hb).1⟩,hb⟩) (fun o b h => by cases h) (fun t r h => by cases h) (fun l k h => by cases h) (fun l k h => by cases h) (fun l k h => by cases h)
   exact hi.imp id fun h => ⟨h,World.block_lt_of_cell? w' _ hc⟩
theorem fn_inv {v : Value} {g : FuncId} {first captured : List AV} (h : RepF G w v (.p (.fn (.func g) first captured))) : ∃ fs cs : List Value,v = .func (.func g) fs.toArray cs.toArray ∧
 (fs.length = first.length ∧ ∀ (i : Nat) (c : Value) (x : AV),fs[i]? = some c → first[i]? = some x → Rep G.imm w c x) ∧
 (cs.length = captured.length ∧ ∀ (i : Nat) (c : Value) (x : AV),cs[i]? = some c → captured[i]? = some x → Rep G.imm w c x) := by
 cases h with
 | p v x h =>
   cases h with
   | fn f fs cs first captured h1 h2 h3 h4 => exact ⟨fs,cs,rfl,⟨h1,h3⟩,⟨h2,h4⟩⟩
theorem fnF_inv {v : Value} {g : FuncId} {first captured : List FV} (h : RepF G w v (.fn (.func g) first captured)) : ∃ fs cs : List Value,v = .func (.func g) fs.toArray cs.toArray ∧
 (fs.length = first.length ∧ ∀ (i : Nat) (c : Value) (x : FV),fs[i]? = some c → first[i]? = some x → RepF G w c x) ∧
 (cs.length = captured.length ∧ ∀ (i : Nat) (c : Value) (x : FV),cs[i]? = some c → captured[i]? = some x → RepF G w c x) := by
 cases h with
 | fn f fs cs first captured h1 h2 h3 h4 => exact ⟨fs,cs,rfl,⟨h1,h3⟩,⟨h2,h4⟩⟩
theorem appendF_rep {cs ds : List Value} {xs ys : List FV}
 (h : cs.length = xs.length ∧ ∀ (i : Nat) (c : Value) (x : FV),cs[i]? = some c → xs[i]? = some x → RepF G w c x)
 (h' : ds.length = ys.length ∧ ∀ (i : Nat) (c : Value) (x : FV),ds[i]? = some c → ys[i]? = some x → RepF G w c x) :
 (cs ++ ds).length = (xs ++ ys).length ∧ ∀ (i : Nat) (c : Value) (x : FV),(cs ++ ds)[i]? = some c → (xs ++ ys)[i]? = some x → RepF G w c x := by
 refine ⟨by simp [h.1,h'.1],fun i c x hc hx => ?_⟩
 rw [List.getElem?_append] at hc hx
 by_cases hi : i < cs.length
 ·rw [if_pos hi] at hc
  rw [if_pos (by omega)] at hx
  exact h.2 i c x hc hx
 ·rw [if_neg hi] at hc
  rw [if_neg (by omega)] at hx
  rw [← h.1] at hx
  exact h'.2 _ c x hc hx
theorem call_args (hs : SimG E G S a w) {f : Operand} {args : Array Operand} {types : Array TypeId} (ho : o.op = .call ⟨.value f,args,types⟩) {KK : FuncId → List AV → Prop}
 (h : match S.val f with
  | .p (.fn (.func g) first captured) => match FV.toAVs (args.toList.map S.val) with
    | some xs => KK g (first ++ xs ++ captured)
    | none => False
  | .fn (.func g) first captured => match FV.toAVs (first ++ args.toList.map S.val ++ captured) with
    | some xs => KK g xs
    | none => False
  | _ => False) :
 ∃ g first captured xs,a.eval f = .func (.func g) first captured ∧ KK g xs ∧
   ((first ++ args.map a.eval ++ captured).toList.length = xs.length ∧ ∀ (i : Nat) (c : Value) (x : AV),(first ++ args.map a.eval ++ captured).toList[i]? = some c → xs[i]? = some x → Rep G.imm w c x) := by
 have hf := RepF.val hs f
 generalize S.val f = vf at h hf
 split at h
 ·split at h
  ·rename_i xs hxs
   obtain ⟨fs,cs,hv,h1,h2⟩ := fn_inv hf
   refine ⟨_,fs.toArray,cs.toArray,_,hv,h,?_⟩
   have h3 := append_rep (append_rep h1 (toAVs_rep (vals_rep hs args.toList) hxs)) h2
   simpa using h3
  ·exact h.elim
 ·split at h
  ·rename_i xs hxs
   obtain ⟨fs,cs,hv,h1,h2⟩ := fnF_inv hf
   refine ⟨_,fs.toArray,cs.toArray,_,hv,h,?_⟩
   have h3 := toAVs_rep (appendF_rep (appendF_rep h1 (vals_rep hs args.toList)) h2) hxs
   simpa using h3
  ·exact h.elim
 ·exact h.elim
theorem wp_callV (hs : SimG E G S a w) {f : Operand} {args : Array Operand} {types : Array TypeId} (ho : o.op = .call ⟨.value f,args,types⟩) {K : FV → Prop}
 (h : evCallV E.C (S.val f) (args.toList.map S.val) K) {next : Act → World → Prop} {Q : Exit → Act → World → Prop}
 (hn : ∀ x v G' w',K x → SimG E G' S a w' → RepF G' w' v x → next (a.put o.dst v) w') : Owp E o a w next Q := by
 obtain ⟨g,first,captured,xs,hv,⟨R,hc,hk⟩,hr⟩ := call_args hs ho (KK := fun g xs => ∃ R,CallsTo E.C g xs R ∧ ∀ r,R r → K r.plain) (by
  unfold evCallV at h
  exact h)
 refine wp_call hs ho hv hr hc fun r v w' hR hb hok => ?_
 exact hn _ v _ w' (hk r hR) (hs.ext hb) hok.plainF
theorem evVal_sound (hs : SimG E G S a w) {K : FV → Prop} (h : evVal E.C S o.op K) {next : Act → World → Prop} {Q : Exit → Act → World → Prop}
 (hn : ∀ x v G' w',K x → SimG E G' S a w' → RepF G' w' v x → next (a.put o.dst v) w') : Owp E o a w next Q := by
 cases hop : o.op with
 | move x => rw [hop] at h; simp only [evVal,force_eq] at h; exact wp_of_yields hs (Yields.same (by simp [execOp,hop]) h (RepF.val hs x)) hn
 | assign x => rw [hop] at h; simp only [evVal,force_eq] at h; exact wp_of_yields hs (Yields.same (by simp [execOp,hop]) h (RepF.val hs x)) hn
 | pick c x y => rw [hop] at h; exact wp_of_yields hs (yields_pick hs hop h) hn
 | binOp op t x y yt =>
   rw [hop] at h
   simp only [evVal] at h
   split at h
   ·rename_i hy
    exact wp_of_yields hs (yields_nili hs hop hy h) hn
   ·exact wp_of_yields hs (yields_bin hs hop h) hn
 | unOp op t x => rw [hop] at h; exact wp_of_yields hs (yields_unOp hs hop h) hn
 | convert src dst x => rw [hop] at h; exact wp_of_yields hs (yields_convert hs hop h) hn
 | makeInterface t x => rw [hop] at h; exact wp_of_yields hs (yields_makeInterface hs hop h) hn
 | makeFunc fn first captured => rw [hop] at h; simp only [evVal,forceL_eq] at h; exact wp_of_yields hs (yields_makeFunc hs hop h) hn
 | build t parts => rw [hop] at h; exact wp_of_yields hs (yields_build hs hop h) hn
 | buildSlice t len parts => rw [hop] at h; exact wp_of_yields hs (yields_buildSlice hs hop h) hn
 | load t x => rw [hop] at h; exact wp_of_yields hs (yields_load hs hop h) hn
 | nilCheck x => rw [hop] at h; exact wp_of_yields hs (yields_nilCheck hs hop h) hn
 | fieldAddr s x f => rw [hop] at h; exact wp_of_yields hs (yields_fieldAddr hs hop h) hn
 | field s x f => rw [hop] at h; exact wp_of_yields hs (yields_field hs hop h) hn
 | indexAddr t x i => rw [hop] at h; exact wp_of_yields hs (yields_indexAddr hs hop h) hn
 | index t x i => rw [hop] at h; exact wp_of_yields hs (yields_index hs hop h) hn
 | lookup t x i ok => rw [hop] at h; exact wp_of_yields hs (yields_lookup hs hop h) hn
 | entry it => rw [hop] at h; exact wp_of_yields hs (yields_entry hs hop h) hn
 | slice t x lo hi mx =>
   rw [hop] at h
   cases mx with
   | none => exact wp_of_yields hs (yields_slice hs hop h) hn
   | some m => exact h.elim
 | extract x i => rw [hop] at h; exact wp_of_yields hs (yields_extract hs hop h) hn
 | call c =>
   rw [hop] at h
   obtain ⟨callee,args,types⟩ := c
   cases callee with
   | value f => exact wp_callV hs hop h hn
   | invoke r m => exact h.elim
   | builtin b => exact wp_of_yields hs (yields_builtin hs hop h) hn
 | _ => rw [hop] at h; exact h.elim
end
end Qv

end

section
namespace Qv
open Go Go.RowKit
section
variable {E : Env} {G : Ghost} {S : ASt} {a : Act} {w : World} {o : Oper}
theorem getObj_del {d o : Nat} {cells : List FV} : ∀ {l : List (Nat × List FV)},Qv.getObj (delObj d l) o = some cells → o ≠ d ∧ ∃ cs,Qv.getObj l o = some cs ∧ cells = FV.killL d cs := by
 intro l
 induction l with
 | nil => intro h; cases h
 | cons p l ih =>
   obtain ⟨u,i⟩ := p
   intro h
   simp only [delObj] at h
   split at h
   ·rename_i hb
    obtain rfl := Nat.eq_of_beq_eq_true hb
    obtain ⟨h1,cs,h2,h3⟩ := ih h
    refine ⟨h1,cs,?_,h3⟩
    simp only [Qv.getObj]
    have : Nat.beq u o = false := by
     cases hb : Nat.beq u o
     ·rfl
     ·exact absurd (Nat.eq_of_beq_eq_true hb).symm h1
    rw [this]; exact h2
   ·rename_i hb
    simp only [Qv.getObj] at h ⊢
    split at h
    ·rename_i hb2
     obtain rfl := Nat.eq_of_beq_eq_true hb2
     obtain rfl := Option.some.inj h
     exact ⟨Nat.ne_of_beq_eq_false hb,i,rfl,rfl⟩
    ·rename_i hb2
     exact ih h
theorem getB_del {d o : Nat} {bs : List UInt8} : ∀ {l : List (Nat × List UInt8)},getB (delB d l) o = some bs → o ≠ d ∧ getB l o = some bs := by
 intro l
 induction l with
 | nil => intro h; cases h
 | cons p l ih =>
   obtain ⟨u,i⟩ := p
   intro h
   simp only [delB] at h
   split at h
   ·rename_i hb
    obtain rfl := Nat.eq_of_beq_eq_true hb
    obtain ⟨h1,h2⟩ := ih h
    refine ⟨h1,?_⟩
    simp only [getB]
    have : Nat.beq u o = false := by
     cases hb : Nat.beq u o
     ·rfl
     ·exact absurd (Nat.eq_of_beq_eq_true hb).symm h1
    rw [this]; exact h2
   ·rename_i hb
    simp only [getB] at h ⊢
    split at h
    ·rename_i hb2
     obtain rfl := Nat.eq_of_beq_eq_true hb2
     exact ⟨Nat.ne_of_beq_eq_false hb,h⟩
    ·rename_i hb2
     exact ih h
theorem getObj_del_none {d o : Nat} {l : List (Nat × List FV)} (h : Qv.getObj l o = none) : Qv.getObj (delObj d l) o = none := by
 cases h' : Qv.getObj (delObj d l) o with
 | none => rfl
 | some cs =>
   obtain ⟨-,cs',h2,-⟩ := getObj_del h'
   rw [h] at h2
   cases h2
theorem getM_del {α : Type} {d o : Nat} {x : α} : ∀ {l : List (Nat × α)},getM (delM d l) o = some x → o ≠ d ∧ getM l o = some x := by
 intro l
 induction l with
 | nil => intro h; cases h
 | cons p l ih =>
   obtain ⟨u,i⟩ := p
   intro h
   simp only [delM] at h
   split at h
   ·rename_i hb
    obtain rfl := Nat.eq_of_beq_eq_true hb
    obtain ⟨h1,h2⟩ := ih h
    refine ⟨h1,?_⟩
    simp only [getM]
    have : Nat.beq u o = false := by
     cases hb : Nat.beq u o
     ·rfl
     ·exact absurd (Nat.eq_of_beq_eq_true hb).symm h1
    rw [this]; exact h2
   ·rename_i hb
    simp only [getM] at h ⊢
    split at h
    ·rename_i hb2
     obtain rfl := Nat.eq_of_beq_eq_true hb2
     exact ⟨Nat.ne_of_beq_eq_false hb,h⟩
    ·rename_i hb2
     exact ih h
theorem Moves.killG {G G' : Ghost} {S S' : ASt} {w : World} (d : Nat) (h1 : S'.maps = (S.kill d).maps) (h2 : S'.its = (S.kill d).its) (h3 : Moves (FV.kill d) G G' S (S.kill d) w) : Moves (FV.kill d) G G' S S' w :=
 ⟨h3.p,fun o l h => h3.maps o l (h1 ▸ h),fun q x h => h3.its q x (h2 ▸ h),h3.mp,h3.it,h3.immOf,h3.immTo,h3.loc⟩
theorem getM_mapMs {f : FV → FV} {o : Nat} {l' : List (AV × FV)} : ∀ {ms : List (Nat × List (AV × FV))},getM (mapMs f ms) o = some l' → ∃ l,getM ms o = some l ∧ l' = mapV f l := by
 intro ms
 induction ms with
 | nil => intro h; cases h
 | cons p ms ih =>
   obtain ⟨u,i⟩ := p
   intro h
   simp only [mapMs,getM] at h ⊢
   split at h
   ·obtain rfl := Option.some.inj h
    exact ⟨i,rfl,rfl⟩
   ·exact ih h
def Ghost.free (G : Ghost) (d : Nat) : Ghost := { G with loc := fun o => if o = d then none else G.loc o,tail := fun t => if t = d then none else G.tail t,row := fun o => if o = d then none else G.row o,mp := fun o => if o = d then none else G.mp o,it := fun o => if o = d then none else G.it o }
theorem Moves.kill2 {G G' : Ghost} {S : ASt} {w : World} (d : Nat) (hi : ∀ b i es k,w.heap[b]? = some (.map es k) → (∃ o,G'.mp o = some b) → G'.imm b i → G.imm b i) (hi' : ∀ b,G.imm b 0 → G'.imm b 0) (hmp : ∀ o b,o ≠ d → G.mp o = some b → G'.mp o = some b) (hmp' : ∀ o b,G'.mp o = some b → G.mp o = some b)
 (hit : ∀ o b,o ≠ d → G.it o = some b → G'.it o = some b) (hit' : ∀ o b,G'.it o = some b → G.it o = some b) (hl : ∀ o b,G'.loc o = some b → G.loc o = some b) : Moves (FV.kill d) G G' S (S.kill d) w := by
 refine ⟨fun _ => rfl,fun o l' h => ?_,fun q x h => ?_,hmp',hit',hi,hi',fun o b h => .inl (hl o b h)⟩
 ·obtain ⟨l,h1,h2⟩ := getM_mapMs h
  obtain ⟨h3,h4⟩ := getM_del h1
  exact ⟨l,h4,h2,fun b hb => hmp o b h3 hb⟩
 ·obtain ⟨h1,h2⟩ := getM_del h
  exact ⟨h2,fun r hr => hit q r h1 hr⟩
theorem Moves.kill {G G' : Ghost} {S : ASt} {w : World} (d : Nat) (hi : G'.imm = G.imm) (hmp : ∀ o b,o ≠ d → G.mp o = some b → G'.mp o = some b) (hmp' : ∀ o b,G'.mp o = some b → G.mp o = some b)
 (hit : ∀ o b,o ≠ d → G.it o = some b → G'.it o = some b) (hit' : ∀ o b,G'.it o = some b → G.it o = some b) (hl : ∀ o b,G'.loc o = some b → G.loc o = some b) : Moves (FV.kill d) G G' S (S.kill d) w :=
 .kill2 d (fun _ _ _ _ _ _ h => hi ▸ h) (fun _ h => hi ▸ h) hmp hmp' hit hit' hl
theorem Ghost.free_mp {G : Ghost} {d : Nat} : (∀ o b,o ≠ d → G.mp o = some b → (G.free d).mp o = some b) ∧ (∀ o b,(G.free d).mp o = some b → G.mp o = some b) ∧ (∀ o b,o ≠ d → G.it o = some b → (G.free d).it o = some b) ∧ (∀ o b,(G.free d).it o = some b → G.it o = some b) :=
 ⟨fun o b h h' => by simp only [Ghost.free]; rw [if_neg h]; exact h',fun o b h => by simp only [Ghost.free] at h; split at h; cases h; exact h,
  fun o b h h' => by simp only [Ghost.free]; rw [if_neg h]; exact h',fun o b h => by simp only [Ghost.free] at h; split at h; cases h; exact h⟩
def TailOK (S : ASt) (o t s : Nat) : Prop := t = o ∧ getB S.blds o = none ∧ ∀ cells,Qv.getObj S.objs o = some cells → cells.length = s
theorem TailOK.mono {S S' : ASt} {o t s : Nat} (h : TailOK S o t s) (hb : ∀ bs,getB S'.blds o = some bs → ∃ bs,getB S.blds o = some bs)
 (ho : ∀ cells,Qv.getObj S'.objs o = some cells → ∃ cs,Qv.getObj S.objs o = some cs ∧ cells.length = cs.length) : TailOK S' o t s := by
 obtain ⟨h1,h2,h3⟩ := h
 refine ⟨h1,?_,fun cells hc => ?_⟩
 ·cases hq : getB S'.blds o with
  | none => rfl
  | some bs => obtain ⟨bs',hb'⟩ := hb bs hq; rw [h2] at hb'; cases hb'
 ·obtain ⟨cs,h4,h5⟩ := ho cells hc
  rw [h5]; exact h3 cs h4
theorem TailOK.kill {S : ASt} {o t s : Nat} (h : TailOK S o t s) (d : Nat) : TailOK (S.kill d) o t s :=
 h.mono (fun bs q => ⟨bs,(getB_del q).2⟩) fun cells q => by
  obtain ⟨-,cs,h1,rfl⟩ := getObj_del q
  exact ⟨cs,h1,by rw [FV.killL_eq,List.length_map]⟩
theorem SimG.kill' (hs : SimG E G S a w) (d : Nat) {G' : Ghost} (hi : G'.imm = G.imm)
 (hl : ∀ o b,o ≠ d → G.loc o = some b → G'.loc o = some b) (ht : ∀ t r,t ≠ d → G.tail t = some r → G'.tail t = some r)
 (hl' : ∀ o b,G'.loc o = some b → G.loc o = some b) (ht' : ∀ t r,G'.tail t = some r → G.tail t = some r) (hrw : ∀ o,o ≠ d → G'.row o = G.row o) (hrw' : ∀ o r,G'.row o = some r → G.row o = some r)
 (hy : ∀ l k,l ≠ d → G.yl l = some k → G'.yl l = some k := by intro _ _ _ h; exact h) (hy' : ∀ l k,G'.yl l = some k → G.yl l = some k := by intro _ _ h; exact h)
 (hmp : ∀ o b,o ≠ d → G.mp o = some b → G'.mp o = some b := by intro _ _ _ h; exact h) (hmp' : ∀ o b,G'.mp o = some b → G.mp o = some b := by intro _ _ h; exact h)
 (hit : ∀ o b,o ≠ d → G.it o = some b → G'.it o = some b := by intro _ _ _ h; exact h) (hit' : ∀ o b,G'.it o = some b → G.it o = some b := by intro _ _ h; exact h) : SimG E G' (S.kill d) a w := by
 refine ⟨hs.kept,hs.size,hs.ext'.move (FV.kill d) rfl rfl rfl (fun v x h => h.kill d hi hl ht hy hmp hit) (.refl _) (.kill d hi hmp hmp' hit hit' hl') hy',?_,hi ▸ hs.immB,hi ▸ hs.immLt,fun i hi' => (hs.tmps i hi').kill d hi hl ht hy hmp hit,fun o cells ho => ?_,fun o b ho => hi ▸ hs.locs o b (hl' o b ho),fun o o' b h h' => hs.locInj o o' b (hl' _ _ h) (hl' _ _ h'),fun o t b r h h' => TailOK.kill (hs.locTail o t b r (hl' _ _ h) (ht' _ _ h')) d,fun t b s e T h => hi ▸ hs.tails t b s e T (ht' _ _ h),fun t t' b r r' h h' => hs.tailInj t t' b r r' (ht' _ _ h) (ht' _ _ h')⟩
 ·refine hs.bld.keep rfl rfl (fun o bs q => ?_) (fun o _ _ q => getObj_del_none q) hrw' (Nat.le_refl _) (fun _ _ _ _ _ _ => rfl) (fun _ _ _ => rfl) (fun _ _ _ _ q => hi ▸ q) (fun _ _ _ _ q => hl' _ _ q) (fun _ _ t q _ e => ⟨t,q,ht' _ _ e⟩)
  obtain ⟨q1,q2⟩ := getB_del q
  obtain ⟨-,b,q3,-⟩ := hs.bld.at_ o bs q2
  exact ⟨q2,by rw [q3]; exact hl o b q1 q3,hrw o q1⟩
 obtain ⟨h1,cs,h2,rfl⟩ := getObj_del ho
 obtain ⟨b,h3,h4⟩ := hs.objs o cs h2
 refine ⟨b,hl o b h1 h3,fun i x hx => ?_⟩
 rw [FV.killL_eq,List.getElem?_map] at hx
 cases hc : cs[i]? with
 | none => simp [hc] at hx
 | some y =>
   simp [hc] at hx
   subst hx
   obtain ⟨c,h5,h6⟩ := h4 i y hc
   exact ⟨c,h5,h6.kill d hi hl ht hy hmp hit⟩
theorem SimG.kill (hs : SimG E G S a w) (d : Nat) : SimG E (G.free d) (S.kill d) a w :=
 hs.kill' d rfl (fun o b h h' => by simp only [Ghost.free]; rw [if_neg h]; exact h') (fun t r h h' => by simp only [Ghost.free]; rw [if_neg h]; exact h')
  (fun o b h => by simp only [Ghost.free] at h; split at h; cases h; exact h) (fun t r h => by simp only [Ghost.free] at h; split at h; cases h; exact h)
  (fun o h => by simp only [Ghost.free]; rw [if_neg h]) (fun o r h => by simp only [Ghost.free] at h; split at h; cases h; exact h)
  (hmp := fun o b h h' => by simp only [Ghost.free]; rw [if_neg h]; exact h') (hmp' := fun o b h => by simp only [Ghost.free] at h; split at h; cases h; exact h)
  (hit := fun o b h h' => by simp only [Ghost.free]; rw [if_neg h]; exact h') (hit' := fun o b h => by simp only [Ghost.free] at h; split at h; cases h; exact h)
theorem newObj_base (hs : SimG E G S a w) (d : Nat) (hdn : d ≠ 999999) (cs : List Value) (xs : List FV) (t : TypeId) (hr : ∀ (i : Nat) (x : FV),xs[i]? = some x → ∃ c,cs[i]? = some c ∧ RepF G w c x) :
 ∃ G',SimG E G' { S.kill d with objs := (d,FV.killL d xs) :: delObj d S.objs } a (w.alloc (.cells cs.toArray t)) ∧ G'.loc d = some w.heap.size ∧ G'.row d = none ∧ G'.tail d = none ∧ (∀ t r,G'.tail t ≠ some (w.heap.size,r)) ∧
   (∀ o,o ≠ d → G'.loc o ≠ some w.heap.size) ∧ (∀ o,G'.row o ≠ some w.heap.size) ∧ (∀ i,¬ G'.imm w.heap.size i) := by
 have hb : Below w.heap.size w (w.alloc (.cells cs.toArray t)) := (Below.refl _ _).alloc (Nat.le_refl _) _
 have h1 := (hs.extN hb fun _ _ => False).kill d
 have keep : ∀ v x,RepF G w v x → RepF (Ghost.free { G with imm := fun b o => G.imm b o ∨ (w.heap.size ≤ b ∧ b < (w.alloc (.cells cs.toArray t)).heap.size ∧ False) } d) (w.alloc (.cells cs.toArray t)) v (x.kill d) := fun v x hv => by
  refine RepF.kill (G := { G with imm := fun b o => G.imm b o ∨ (w.heap.size ≤ b ∧ b < (w.alloc (.cells cs.toArray t)).heap.size ∧ False) }) d ?_ rfl (fun o b h h' => by simp only [Ghost.free]; rw [if_neg h]; exact h') (fun t r h h' => by simp only [Ghost.free]; rw [if_neg h]; exact h')
   (hmp := fun o b h h' => by simp only [Ghost.free]; rw [if_neg h]; exact h') (hit := fun o b h h' => by simp only [Ghost.free]; rw [if_neg h]; exact h')
  exact hv.keep (fun b o h => .inl h) (fun b o c hi hc => by rw [World.cell?_alloc_lt _ _ _ (hs.immLt b o hi)]; exact hc) (stands_alloc _ _ _) (fun _ _ h => h) (fun _ _ h => h)
 have hlt : ∀ o b,(if o = d then none else G.loc o) = some b → b < w.heap.size := fun o b h => by
  split at h
  ·cases h
  ·exact (hs.locs o b h).1
 have htl : ∀ t b r,(if t = d then none else G.tail t) = some (b,r) → b < w.heap.size := fun t b r h => by
  split at h
  ·cases h
  ·obtain ⟨s,e,T⟩ := r
   exact (hs.tails t b s e T h).1
 let G2 : Ghost := { imm := fun b o => G.imm b o ∨ (w.heap.size ≤ b ∧ b < (w.alloc (.cells cs.toArray t)).heap.size ∧ False),loc := fun o => if o = d then some w.heap.size else G.loc o,tail := fun t => if t = d then none else G.tail t,yl := G.yl,row := fun o => if o = d then none else G.row o,mp := fun o => if o = d then none else G.mp o,it := fun o => if o = d then none else G.it o }
 have up : ∀ {W : World} {v : Value} {x : FV},RepF (Ghost.free { G with imm := fun b o => G.imm b o ∨ (w.heap.size ≤ b ∧ b < (w.alloc (.cells cs.toArray t)).heap.size ∧ False) } d) W v x → RepF G2 W v x := fun h =>
  h.keep (fun _ _ h => h) (fun _ _ _ _ h => h) (.refl _ _) (fun o b h => by
   simp only [Ghost.free] at h
   simp only [G2]
   split at h
   ·cases h
   ·rename_i hne; rw [if_neg hne]; exact h) (fun _ _ h => h)
 have hnew : ∀ b i,G.imm b i ∨ (w.heap.size ≤ b ∧ b < (w.alloc (.cells cs.toArray t)).heap.size ∧ False) → b ≠ w.heap.size := fun b i h e => by
  rcases h with h | ⟨_,_,h⟩
  ·have := hs.immLt b i h; omega
  ·exact h
 have hsz : (w.alloc (.cells cs.toArray t)).heap.size = w.heap.size + 1 := World.size_alloc w _
 have hmv : Moves (fun x => x) (Ghost.free { G with imm := fun b o => G.imm b o ∨ (w.heap.size ≤ b ∧ b < (w.alloc (.cells cs.toArray t)).heap.size ∧ False) } d) G2 (S.kill d) { S.kill d with objs := (d,FV.killL d xs) :: delObj d S.objs } (w.alloc (.cells cs.toArray t)) := by
  refine .more rfl rfl rfl rfl (fun b i h => .inl h) (fun b h => h) fun o b h => ?_
  simp only [G2] at h
  split at h
  ·obtain rfl := Option.some.inj h
   refine .inr fun es k e => ?_
   rw [World.alloc_heap_new] at e
   cases e
  ·rename_i hne
   refine .inl ?_
   simp only [Ghost.free]
   rw [if_neg hne]; exact h
 have base : SimG E G2 { S.kill d with objs := (d,FV.killL d xs) :: delObj d S.objs } a (w.alloc (.cells cs.toArray t)) := by
  refine ⟨h1.kept,h1.size,h1.ext'.keep rfl rfl rfl (fun v x h => up h) (.refl _) (hmv := hmv),?_,h1.immB,h1.immLt,fun i hi => up (h1.tmps i hi),fun o cells ho => ?_,fun o b ho => ?_,fun o o' b h h' => ?_,fun o t b r h h' => ?_,fun t b s e T h => h1.tails t b s e T h,h1.tailInj⟩
  ·refine h1.bld.keep rfl rfl (fun o bs q => ?_) (fun o bs q0 q => ?_) (fun _ _ e => e) (Nat.le_refl _) (fun _ _ _ _ _ _ => rfl) (fun _ _ _ => rfl) (fun _ _ _ _ e => e) (fun o r o' e q => ?_) (fun _ _ t q _ e => ⟨t,q,e⟩)
   ·obtain ⟨q1,q2⟩ := getB_del (l := S.blds) q
    refine ⟨q,?_,rfl⟩
    simp only [G2,Ghost.free]
    rw [if_neg q1,if_neg q1]
   ·simp only [Qv.getObj]
    split
    ·rename_i hbq
     obtain rfl := Nat.eq_of_beq_eq_true hbq
     exact absurd rfl (getB_del (l := S.blds) q0).1
    ·exact q
   ·simp only [G2] at q
    split at q
    ·have := (h1.bld.row o r e).2.1
     have hlt := (hs.bld.row o r (by simp only [Ghost.free] at e; split at e; cases e; exact e)).2.1
     obtain rfl := Option.some.inj q
     omega
    ·rename_i hne
     simp only [Ghost.free]
     rw [if_neg hne]; exact q
  ·simp only [Qv.getObj] at ho
   split at ho
   ·rename_i hbq
    obtain rfl := Nat.eq_of_beq_eq_true hbq
    obtain rfl := Option.some.inj ho
    refine ⟨w.heap.size,by simp [G2],fun i x hx => ?_⟩
    rw [FV.killL_eq,List.getElem?_map] at hx
    cases hy : xs[i]? with
    | none => simp [hy] at hx
    | some y =>
      simp [hy] at hx
      subst hx
      obtain ⟨c,hc1,hc2⟩ := hr i y hy
      refine ⟨c,?_,up (keep _ _ hc2)⟩
      rw [World.cell?_alloc_new]
      simpa using hc1
   ·rename_i hbq
    have hne : o ≠ d := fun e => by rw [e] at hbq; simp at hbq
    obtain ⟨b,h2,h3⟩ := h1.objs o cells ho
    refine ⟨b,?_,fun i x hx => let ⟨c,h4,h5⟩ := h3 i x hx; ⟨c,h4,up h5⟩⟩
    simp only [Ghost.free] at h2
    simp only [G2]
    rw [if_neg hne] at h2 ⊢
    exact h2
  ·simp only [G2] at ho
   split at ho
   ·obtain rfl := Option.some.inj ho
    refine ⟨by rw [hsz]; omega,.inl ⟨hs.kept.size,fun e => by omega⟩,fun i => ⟨fun h => hnew _ _ h rfl,?_⟩⟩
    exact World.frozen?_alloc_new w _ _ i
   ·rename_i hne
    exact h1.locs o b (by simp only [Ghost.free]; rw [if_neg hne]; exact ho)
  ·simp only [G2] at h h'
   split at h <;> split at h'
   ·rename_i e1 e2; rw [e1,e2]
   ·rename_i hne
    obtain rfl := Option.some.inj h
    have := hlt o' _ (by rw [if_neg hne]; exact h'); omega
   ·rename_i hne _
    obtain rfl := Option.some.inj h'
    have := hlt o _ (by rw [if_neg hne]; exact h); omega
   ·rename_i h2 h3
    exact h1.locInj o o' b (by simp only [Ghost.free]; rw [if_neg h2]; exact h) (by simp only [Ghost.free]; rw [if_neg h3]; exact h')
  ·simp only [G2] at h h'
   split at h
   ·obtain rfl := Option.some.inj h
    have := htl t _ _ h'; omega
   ·rename_i hne
    exact TailOK.mono (h1.locTail o t b r (by simp only [Ghost.free]; rw [if_neg hne]; exact h) h') (fun bs q => ⟨bs,q⟩) fun cells q => by
     simp only [Qv.getObj] at q
     split at q
     ·rename_i hbq; exact absurd (Nat.eq_of_beq_eq_true hbq).symm hne
     ·exact ⟨cells,q,rfl⟩
 refine ⟨G2,base,by simp [G2],by simp [G2],by simp [G2],fun t r h => ?_,fun o hne h => ?_,fun o h => ?_,fun i h => hnew _ _ h rfl⟩
 ·have := htl t _ _ h; omega
 ·simp only [G2] at h
  rw [if_neg hne] at h
  have := (hs.locs o _ h).1
  omega
 ·simp only [G2] at h
  split at h
  ·cases h
  ·have := (hs.bld.row o _ h).2.1
   omega
theorem newObj_sound (hs : SimG E G S a w) (q : Nat) (hdn : S.off + q ≠ 999999) (cs : List Value) (xs : List FV) (t : TypeId) (hr : RepL G w cs xs) :
 ∃ G',SimG E G' (newObj S q xs) (a.put (some q) (.pointer (some ⟨w.heap.size,0,none⟩))) (w.alloc (.cells cs.toArray t)) ∧ G'.loc (S.off + q) = some w.heap.size ∧ G'.row (S.off + q) = none ∧ ∀ t r,G'.tail t ≠ some (w.heap.size,r) := by
 obtain ⟨G',h1,h2,h3,-,h5,-⟩ := newObj_base hs (S.off + q) hdn cs xs t fun i x hx => by
  have hl : i < cs.length := by rw [hr.1]; exact (List.getElem?_eq_some_iff.1 hx).1
  exact ⟨cs[i],List.getElem?_eq_getElem hl,hr.2 i _ x (List.getElem?_eq_getElem hl) hx⟩
 exact ⟨G',h1.put (some q) (v := .pointer (some ⟨w.heap.size,0,none⟩)) (x := .ptr (S.off + q) 0) (.ptr _ 0 _ h2),h2,h3,h5⟩
theorem SimG.toBld {d b : Nat} {cells : List FV} {rest : List (Nat × List FV)} (hs : SimG E G S a w) (ho : S.objs = (d,cells) :: delObj d rest) (hl : G.loc d = some b) (hr : G.row d = none) (htd : ∀ t r,G.tail t ≠ some (b,r))
 (hw : w.heap[b]? = some (.cells #[.pointer none,.slice none 0 0] E.C.bT (0,0))) : SimG E G { S with objs := delObj d rest,blds := (d,[]) :: S.blds } a w := by
 have hout : ∀ o,o ≠ d → Qv.getObj S.objs o = Qv.getObj (delObj d rest) o := fun o hne => by
  rw [ho]
  simp only [Qv.getObj]
  split
  ·rename_i hbq; exact absurd (Nat.eq_of_beq_eq_true hbq).symm hne
  ·rfl
 have hd : Qv.getObj (delObj d rest) d = none := by
  cases h' : Qv.getObj (delObj d rest) d with
  | none => rfl
  | some cs => exact absurd rfl (getObj_del h').1
 refine ⟨hs.kept,hs.size,hs.ext'.keep rfl rfl rfl (fun _ _ h => h) (.refl _),⟨fun o bs q => ?_,hs.bld.row,hs.bld.rowC⟩,hs.immB,hs.immLt,hs.tmps,fun o cs q => ?_,hs.locs,hs.locInj,fun o t b' r q1 q2 => ?_,hs.tails,hs.tailInj⟩
 ·simp only [getB] at q
  split at q
  ·rename_i hbq
   obtain rfl := Nat.eq_of_beq_eq_true hbq
   obtain rfl := Option.some.inj q
   refine ⟨hd,b,hl,?_⟩
   rw [hr]
   exact ⟨none,.slice none 0 0,.inl rfl,hw,rfl,rfl⟩
  ·rename_i hbq
   obtain ⟨q1,q2⟩ := hs.bld.at_ o bs q
   rw [hout o (Ne.symm (Nat.ne_of_beq_eq_false hbq))] at q1
   exact ⟨q1,q2⟩
 ·refine hs.objs o cs ?_
  by_cases hne : o = d
  ·subst hne
   rw [hd] at q; cases q
  ·rw [hout o hne]; exact q
 ·have hne : o ≠ d := fun e => by
   subst e
   rw [hl] at q1
   obtain rfl := Option.some.inj q1
   exact htd _ _ q2
  refine TailOK.mono (hs.locTail o t b' r q1 q2) (fun bs q => ?_) fun cells q => ⟨cells,by rw [hout o hne]; exact q,rfl⟩
  simp only [getB] at q
  split at q
  ·rename_i hbq; exact absurd (Nat.eq_of_beq_eq_true hbq).symm hne
  ·exact ⟨bs,q⟩
theorem SimG.bldStep {o b : Nat} {bs : List UInt8} {row' : Option Nat} {blds' : List (Nat × List UInt8)} {w' : World} (hs : SimG E G S a w) (ho : getB S.blds o = some bs) (hl : G.loc o = some b)
 (hfz : ∃ p v,w'.heap[b]? = some (.cells #[p,v] E.C.bT (0,0))) (hrow : row' = G.row o ∨ row' = none ∨ ∃ x,row' = some x ∧ w.heap.size ≤ x ∧ x < w'.heap.size) (hrowC : ∀ r,row' = some r → ∃ cs T fr,w'.heap[r]? = some (.cells cs T fr))
 (hos : w'.os = w.os) (htape : w'.tape = w.tape) (hout : w'.output = w.output) (hsz : w.heap.size ≤ w'.heap.size) (hblk : ∀ k,k < w.heap.size → k ≠ b → G.row o ≠ some k → w'.heap[k]? = w.heap[k]?)
 (hbl : ∀ q bs',getB blds' q = some bs' → (q = o ∧ BldAt E.C w' b row' bs') ∨ (q ≠ o ∧ getB S.blds q = some bs')) :
 SimG E { G with row := fun q => if q = o then row' else G.row q } { S with blds := blds' } a w' ∧ ∀ v x,RepF G w v x → RepF { G with row := fun q => if q = o then row' else G.row q } w' v x := by
 obtain ⟨hobj,b0,hl0,hat⟩ := hs.bld.at_ o bs ho
 rw [hl] at hl0
 obtain rfl := Option.some.inj hl0
 obtain ⟨l1,l2,l3⟩ := hs.locs o b hl
 have himm : ∀ k i,G.imm k i → w'.heap[k]? = w.heap[k]? := fun k i h => hblk k (hs.immLt k i h) (fun e => (l3 i).1 (e ▸ h)) (fun e => (hs.bld.row o k e).2.2.1 i h)
 have hloc : ∀ q k,q ≠ o → G.loc q = some k → w'.heap[k]? = w.heap[k]? := fun q k hne h => hblk k (hs.locs q k h).1 (fun e => hne (hs.locInj q o k h (e ▸ hl))) (fun e => (hs.bld.row o k e).2.2.2.1 q h)
 have htail : ∀ t k r,G.tail t = some (k,r) → w'.heap[k]? = w.heap[k]? := fun t k r h => hblk k (hs.tails t k r.1 r.2.1 r.2.2 h).1 (fun e => by have := (hs.locTail o t b r hl (e ▸ h)).2.1; rw [ho] at this; cases this) (fun e => (hs.bld.row o k e).2.2.2.2.1 t r h)
 have hrows : ∀ q k,q ≠ o → G.row q = some k → w'.heap[k]? = w.heap[k]? := fun q k hne h => hblk k (hs.bld.row q k h).2.1 (fun e => (hs.bld.row q k h).2.2.2.1 o (e ▸ hl)) (fun e => hne ((hs.bld.row o k e).2.2.2.2.2 q h))
 have cell : ∀ k i,w'.heap[k]? = w.heap[k]? → w'.cell? ⟨k,i,none⟩ = w.cell? ⟨k,i,none⟩ := fun k i h => by unfold World.cell?; simp only [h]
 have froz : ∀ k i,w'.heap[k]? = w.heap[k]? → w'.frozen? ⟨k,i,none⟩ = w.frozen? ⟨k,i,none⟩ := fun k i h => by unfold World.frozen?; simp only [h]
 have keep : ∀ v x,RepF G w v x → RepF { G with row := fun q => if q = o then row' else G.row q } w' v x := fun v x h =>
  h.keep (fun _ _ h => h) (fun k i c hi hc => by rw [cell k i (himm k i hi)]; exact hc) (fun k es n hi hb => by rw [himm k 0 hi]; exact hb) (fun _ _ h => h) (fun _ _ h => h)
 have others : Others w w' := fun k ob hk hc => by
  rw [hblk k (Array.getElem?_eq_some_iff.1 hk).1 (fun e => ?_) (fun e => ?_)]
  ·exact hk
  ·subst e
   obtain ⟨p,v,-,h2,-⟩ := hat
   rw [h2] at hk
   obtain rfl := Option.some.inj hk
   simp [Obj.isCells] at hc
  ·obtain ⟨p,v,-,-,h3⟩ := hat
   rw [e] at h3
   obtain ⟨-,cap,cur,-,h4,-⟩ := h3
   rw [h4] at hk
   obtain rfl := Option.some.inj hk
   simp [Obj.isCells] at hc
 refine ⟨⟨⟨hos.trans hs.kept.os,htape.trans hs.kept.tape,hout.trans hs.kept.output,Nat.le_trans hs.kept.size hsz,fun k hk hk' => ?_,fun k cs T fr hk q => ?_⟩,hs.size,hs.ext'.keep rfl rfl rfl keep others,⟨fun q bs' hq => ?_,fun q r hq => ?_,fun q r hq => ?_⟩,hs.immB,fun k i h => Nat.lt_of_lt_of_le (hs.immLt k i h) hsz,fun i hi => keep _ _ (hs.tmps i hi),fun q cs hq => ?_,fun q k hq => ?_,hs.locInj,fun q t k r q1 q2 => ?_,fun t k s e T h => ?_,hs.tailInj⟩,keep⟩
 ·rw [hblk k (Nat.lt_of_lt_of_le hk hs.kept.size) (fun e => E.mine_ne l2 hk hk' e) (fun e => by have := (hs.bld.row o k e).1; omega)]
  exact hs.kept.block k hk hk'
 ·obtain ⟨cs',q1,q2⟩ := hs.kept.shape k cs T fr hk q
  by_cases hkb : k = b
  ·subst hkb
   obtain ⟨p,v,-,q3,-⟩ := hat
   obtain ⟨p',v',q4⟩ := hfz
   rw [q3] at q1
   injection Option.some.inj q1 with e1 e2 e3
   subst e1; subst e2; subst e3
   exact ⟨_,q4,q2⟩
  ·exact ⟨cs',by rw [hblk k (Array.getElem?_eq_some_iff.1 q1).1 hkb (fun e => by have := (hs.bld.row o k e).1; have := (E.hown k hk).2.1; omega)]; exact q1,q2⟩
 ·rcases hbl q bs' hq with ⟨rfl,h⟩ | ⟨hne,h⟩
  ·exact ⟨hobj,b,hl,by simpa using h⟩
  ·obtain ⟨h1,k,h2,h3⟩ := hs.bld.at_ q bs' h
   refine ⟨h1,k,h2,?_⟩
   simp only [if_neg hne]
   exact h3.keep (hloc q k hne h2) (fun r e => hrows q r hne e)
 ·simp only at hq
  have old : ∀ q r,G.row q = some r → (q = o ∨ q ≠ o) → E.w0.heap.size ≤ r ∧ r < w'.heap.size ∧ (∀ i,¬ G.imm r i) ∧ (∀ o',G.loc o' ≠ some r) ∧ (∀ t q,G.tail t ≠ some (r,q)) := fun q r h _ => by
   obtain ⟨h1,h2,h3,h4,h5,-⟩ := hs.bld.row q r h
   exact ⟨h1,Nat.lt_of_lt_of_le h2 hsz,h3,h4,h5⟩
  by_cases hqo : q = o
  ·subst hqo
   rw [if_pos rfl] at hq
   rcases hrow with h | h | ⟨x,h,hx,hx'⟩
   ·obtain ⟨h1,h2,h3,h4,h5⟩ := old q r (h ▸ hq) (.inl rfl)
    refine ⟨h1,h2,h3,h4,h5,fun o' ho' => ?_⟩
    simp only at ho'
    split at ho'
    ·assumption
    ·exact (hs.bld.row q r (h ▸ hq)).2.2.2.2.2 o' ho'
   ·rw [h] at hq; cases hq
   ·rw [h] at hq
    obtain rfl := Option.some.inj hq
    refine ⟨Nat.le_trans hs.kept.size hx,hx',fun i hi => by have := hs.immLt x i hi; omega,fun o' e => by have := (hs.locs o' x e).1; omega,fun t q e => by have := (hs.tails t x q.1 q.2.1 q.2.2 e).1; omega,fun o' ho' => ?_⟩
    simp only at ho'
    split at ho'
    ·assumption
    ·have := (hs.bld.row o' x ho').2.1; omega
  ·rw [if_neg hqo] at hq
   obtain ⟨h1,h2,h3,h4,h5⟩ := old q r hq (.inr hqo)
   refine ⟨h1,h2,h3,h4,h5,fun o' ho' => ?_⟩
   simp only at ho'
   split at ho'
   ·rename_i e
    rcases hrow with h | h | ⟨x,h,hx,hx'⟩
    ·rw [e]; exact ((hs.bld.row q r hq).2.2.2.2.2 o (h ▸ ho'))
    ·rw [h] at ho'; cases ho'
    ·rw [h] at ho'
     obtain rfl := Option.some.inj ho'
     have := (hs.bld.row q x hq).2.1; omega
   ·exact (hs.bld.row q r hq).2.2.2.2.2 o' ho'
 ·simp only at hq
  split at hq
  ·exact hrowC r hq
  ·rename_i hne
   rw [hrows q r hne hq]
   exact hs.bld.rowC q r hq
 ·obtain ⟨k,h1,h2⟩ := hs.objs q cs hq
  have hne : q ≠ o := fun e => by rw [e,hobj] at hq; cases hq
  exact ⟨k,h1,fun i x hx => let ⟨c,h3,h4⟩ := h2 i x hx; ⟨c,by rw [cell k i (hloc q k hne h1)]; exact h3,keep _ _ h4⟩⟩
 ·obtain ⟨h1,h2,h3⟩ := hs.locs q k hq
  refine ⟨Nat.lt_of_lt_of_le h1 hsz,h2,fun i => ⟨(h3 i).1,?_⟩⟩
  by_cases hne : q = o
  ·subst hne
   rw [hl] at hq
   obtain rfl := Option.some.inj hq
   obtain ⟨p,v,hb⟩ := hfz
   simp [World.frozen?,hb]
  ·rw [froz k i (hloc q k hne hq)]; exact (h3 i).2
 ·have hq := hs.locTail q t k r q1 q2
  refine TailOK.mono hq (fun bs q3 => ?_) fun cells q3 => ⟨cells,q3,rfl⟩
  rcases hbl q bs q3 with ⟨rfl,-⟩ | ⟨-,h⟩
  ·exact ⟨_,ho⟩
  ·exact ⟨bs,h⟩
 ·obtain ⟨h1,h2,⟨cs,fr,h3⟩,h4⟩ := hs.tails t k s e T h
  have hk := htail t k _ h
  exact ⟨Nat.lt_of_lt_of_le h1 hsz,h2,⟨cs,fr,hk.trans h3⟩,fun i hi hi' => let ⟨⟨c,h5⟩,h6,h7⟩ := h4 i hi hi'; ⟨⟨c,by rw [cell k i hk]; exact h5⟩,by rw [froz k i hk]; exact h6,h7⟩⟩
theorem getB_set {ob o : Nat} {c bs : List UInt8} : ∀ {l : List (Nat × List UInt8)},getB (setB l ob c) o = some bs → (o = ob ∧ bs = c) ∨ (o ≠ ob ∧ getB l o = some bs) := by
 intro l
 induction l with
 | nil => intro h; cases h
 | cons p l ih =>
   obtain ⟨u,i⟩ := p
   intro h
   simp only [setB] at h
   split at h
   ·rename_i hb
    obtain rfl := Nat.eq_of_beq_eq_true hb
    simp only [getB] at h ⊢
    split at h
    ·rename_i hb2
     obtain rfl := Nat.eq_of_beq_eq_true hb2
     exact .inl ⟨rfl,(Option.some.inj h).symm⟩
    ·rename_i hb2
     exact .inr ⟨Ne.symm (Nat.ne_of_beq_eq_false hb2),h⟩
   ·rename_i hb
    simp only [getB] at h ⊢
    split at h
    ·rename_i hb2
     obtain rfl := Nat.eq_of_beq_eq_true hb2
     exact .inr ⟨Nat.ne_of_beq_eq_false hb,h⟩
    ·rename_i hb2
     rcases ih h with h | h
     ·exact .inl h
     ·exact .inr ⟨h.1,h.2⟩
theorem setCells_heap (b : Nat) : ∀ (vs : List Value) (i : Nat) (w : World) (k : Nat),k ≠ b → (w.setCells b i vs).heap[k]? = w.heap[k]?
 | [],_,_,_,_ => rfl
 | v :: r,i,w,k,h => by
   rw [World.setCells,setCells_heap b r _ _ k h]
   exact Below.heap_setCell _ _ _ _ h
theorem setCells_size (b : Nat) : ∀ (vs : List Value) (i : Nat) (w : World),(w.setCells b i vs).heap.size = w.heap.size
 | [],_,_ => rfl
 | v :: r,i,w => by rw [World.setCells,setCells_size b r]; simp
theorem setCells_rest (b : Nat) : ∀ (vs : List Value) (i : Nat) (w : World),(w.setCells b i vs).os = w.os ∧ (w.setCells b i vs).tape = w.tape ∧ (w.setCells b i vs).output = w.output
 | [],_,_ => ⟨rfl,rfl,rfl⟩
 | v :: r,i,w => by rw [World.setCells]; exact setCells_rest b r _ _
theorem setCells_shape (b : Nat) : ∀ (vs : List Value) (i : Nat) (w : World) (k : Nat) (cs : Array Value) (T : TypeId) (fr : Nat × Nat),w.heap[k]? = some (.cells cs T fr) → ∃ cs',(w.setCells b i vs).heap[k]? = some (.cells cs' T fr) ∧ cs'.size = cs.size
 | [],_,_,_,cs,_,_,h => ⟨cs,h,rfl⟩
 | v :: r,i,w,k,cs,T,fr,h => by
   rw [World.setCells]
   by_cases hk : k = b
   ·subst hk
    have : ∃ cs',(w.setCell ⟨k,i,none⟩ v).heap[k]? = some (.cells cs' T fr) ∧ cs'.size = cs.size := by
     simp only [World.setCell,Array.getElem?_modify,h]
     simp
    obtain ⟨c1,h1,h2⟩ := this
    obtain ⟨c2,h3,h4⟩ := setCells_shape k r _ _ k c1 T fr h1
    exact ⟨c2,h3,h4.trans h2⟩
   ·exact setCells_shape b r _ _ k cs T fr (by rw [Below.heap_setCell _ _ _ _ hk]; exact h)
theorem Kept.setCells {own : List Nat} {w0 w : World} (h : Kept own w0 w) {b : Nat} (hb : w0.heap.size ≤ b ∨ b ∈ own) (i : Nat) (vs : List Value) : Kept own w0 (w.setCells b i vs) := by
 obtain ⟨h1,h2,h3⟩ := setCells_rest b vs i w
 refine ⟨h1.trans h.os,h2.trans h.tape,h3.trans h.output,by rw [setCells_size]; exact h.size,fun k hk hk' => ?_,fun k cs T fr hk q => ?_⟩
 ·rw [setCells_heap b vs i w k (fun e => by rcases hb with hb | hb; omega; exact hk' (e ▸ hb))]
  exact h.block k hk hk'
 ·obtain ⟨cs',q1,q2⟩ := h.shape k cs T fr hk q
  obtain ⟨cs2,q3,q4⟩ := setCells_shape b vs i w k cs' T fr q1
  exact ⟨cs2,q3,q4.trans q2⟩
theorem Others.setCells (b : Nat) : ∀ (vs : List Value) (i : Nat) (w : World),Others w (w.setCells b i vs)
 | [],_,w => .refl w
 | v :: r,i,w => by
   rw [World.setCells]
   refine Others.trans (fun k o hk ho => ?_) (Others.setCells b r _ _)
   exact (KeepsOthers.setCell w _ v).same k o hk ho
theorem setCells_type (b : Nat) : ∀ (vs : List Value) (i : Nat) (w : World) (k : Nat) (T : TypeId),(∃ cs fr,w.heap[k]? = some (.cells cs T fr)) → ∃ cs fr,(w.setCells b i vs).heap[k]? = some (.cells cs T fr)
 | [],_,_,_,_,h => h
 | v :: r,i,w,k,T,h => by
   rw [World.setCells]
   refine setCells_type b r _ _ k T ?_
   obtain ⟨cs,fr,h⟩ := h
   by_cases hk : k = b
   ·subst hk
    simp only [World.setCell,Array.getElem?_modify,h]
    simp
   ·exact ⟨cs,fr,by rw [Below.heap_setCell _ _ _ _ hk]; exact h⟩
theorem getObj_set {ob o : Nat} {cs cells : List FV} : ∀ {l : List (Nat × List FV)},Qv.getObj (setObj l ob cs) o = some cells → (o = ob ∧ cells = cs) ∨ (o ≠ ob ∧ Qv.getObj l o = some cells) := by
 intro l
 induction l with
 | nil => intro h; cases h
 | cons p l ih =>
   obtain ⟨u,i⟩ := p
   intro h
   simp only [setObj] at h
   split at h
   ·rename_i hb
    obtain rfl := Nat.eq_of_beq_eq_true hb
    simp only [Qv.getObj] at h ⊢
    split at h
    ·rename_i hb2
     obtain rfl := Nat.eq_of_beq_eq_true hb2
     exact .inl ⟨rfl,(Option.some.inj h).symm⟩
    ·rename_i hb2
     exact .inr ⟨Ne.symm (Nat.ne_of_beq_eq_false hb2),h⟩
   ·rename_i hb
    simp only [Qv.getObj] at h ⊢
    split at h
    ·rename_i hb2
     obtain rfl := Nat.eq_of_beq_eq_true hb2
     exact .inr ⟨Nat.ne_of_beq_eq_false hb,h⟩
    ·rename_i hb2
     rcases ih h with h | h
     ·exact .inl h
     ·exact .inr ⟨h.1,h.2⟩
theorem store_sound (hs : SimG E G S a w) {ob off b : Nat} {cells zs : List FV} {x : FV} {v : Value} (hob : Qv.getObj S.objs ob = some cells) (hloc : G.loc ob = some b)
 (hv : RepF G w v x) (h1 : allOne x.cells = true) (hset : setRange cells off x.cells = some zs) :
 SimG E G { S with objs := setObj S.objs ob zs } a (w.setCells b off v.cells.toList) ∧
 (storeCells ⟨b,off,none⟩ v.cells.toList 0).run E.C.P w = .ok () (w.setCells b off v.cells.toList) := by
 obtain ⟨hcr,hco⟩ := cells_rep hv h1
 obtain ⟨g1,g2,g3⟩ := setRange_some hset
 obtain ⟨b',hb',hc⟩ := hs.objs ob cells hob
 obtain rfl : b' = b := by rw [hloc] at hb'; exact (Option.some.inj hb').symm
 obtain ⟨l1,l2,l3⟩ := hs.locs ob b' hloc
 have hin : ∀ j,j < v.cells.toList.length → (w.cell? ⟨b',off + j,none⟩).isSome = true := fun j hj => by
  rw [hcr.1] at hj
  have hne : x.cells ≠ [] := fun e => by rw [e] at hj; simp at hj
  have := g2 hne
  have hl : off + j < cells.length := by omega
  obtain ⟨c,h2,-⟩ := hc (off + j) _ (List.getElem?_eq_getElem hl)
  rw [h2]; rfl
 have hrun := run_storeCells_cells (P := E.C.P) b' off v.cells.toList 0 w (by simpa using hin) (fun j _ => (l3 _).2) hco
 simp only [Nat.add_zero] at hrun
 refine ⟨?_,hrun⟩
 have hout : ∀ b2 i,b2 ≠ b' → (w.setCells b' off v.cells.toList).cell? ⟨b2,i,none⟩ = w.cell? ⟨b2,i,none⟩ := fun b2 i hne =>
  World.cell?_setCells_out b' _ off w ⟨b2,i,none⟩ (fun e => absurd e hne)
 have keep : ∀ u y,RepF G w u y → RepF G (w.setCells b' off v.cells.toList) u y := fun u y hu => by
  refine hu.keep (fun _ _ h => h) (fun b2 i c hi hc => ?_) ((Others.setCells b' _ _ _).stands _) (fun _ _ h => h) (fun _ _ h => h)
  rw [hout b2 i (fun e => (l3 i).1 (e ▸ hi))]
  exact hc
 have hsz := setCells_size b' v.cells.toList off w
 have hfz : ∀ x,(w.setCells b' off v.cells.toList).frozen? x = w.frozen? x := fun x => World.frozen?_setCells b' _ off w x
 refine ⟨hs.kept.setCells (l2.imp (·.1) (·.2)) _ _,hs.size,hs.ext'.keep rfl rfl rfl keep (.setCells b' _ _ _),?_,hs.immB,fun b o h => by rw [hsz]; exact hs.immLt b o h,fun i hi => keep _ _ (hs.tmps i hi),fun o cs ho => ?_,fun o b ho => ?_,hs.locInj,fun o t b r q1 q2 => ?_,fun t b s e T h => ?_,hs.tailInj⟩
 ·refine hs.bld.keep rfl rfl (fun o bs q => ⟨q,rfl,rfl⟩) (fun o bs _ q => ?_) (fun _ _ e => e) (by rw [hsz]; exact Nat.le_refl _) (fun o bs b q q2 e => setCells_heap _ _ _ _ _ (fun e2 => ?_)) (fun o r e => setCells_heap _ _ _ _ _ (fun e2 => (hs.bld.row o r e).2.2.2.1 ob (e2 ▸ hloc))) (fun _ _ _ _ e => e) (fun _ _ _ _ e => e) (fun _ _ t q _ e => ⟨t,q,e⟩)
  ·cases h' : Qv.getObj (setObj S.objs ob zs) o with
   | none => rfl
   | some cs =>
     rcases getObj_set h' with ⟨rfl,-⟩ | ⟨-,h2⟩
     ·rw [hob] at q; cases q
     ·rw [q] at h2; cases h2
  ·have := hs.locInj o ob b e (e2 ▸ hloc)
   subst this
   rw [hob] at q2; cases q2
 ·rcases getObj_set ho with ⟨rfl,rfl⟩ | ⟨hne,ho⟩
  ·refine ⟨b',hloc,fun i y hy => ?_⟩
   rw [g3 i] at hy
   by_cases hi : off ≤ i ∧ i < off + x.cells.length
   ·rw [if_pos hi] at hy
    have hj : i - off < v.cells.toList.length := by rw [hcr.1]; omega
    have h2 := World.cell?_setCells_in b' v.cells.toList off w hin (i - off) hj
    rw [show off + (i - off) = i from by omega] at h2
    exact ⟨_,h2,keep _ _ (hcr.2 (i - off) _ y (List.getElem?_eq_getElem hj) hy)⟩
   ·rw [if_neg hi] at hy
    obtain ⟨c,h2,h3⟩ := hc i y hy
    refine ⟨c,?_,keep _ _ h3⟩
    rw [World.cell?_setCells_out b' _ off w ⟨b',i,none⟩ (fun _ _ => by rw [hcr.1]; simp only; omega)]
    exact h2
  ·obtain ⟨b2,h2,h3⟩ := hs.objs o cs ho
   have hb2 : b2 ≠ b' := fun e => hne (hs.locInj o ob b2 h2 (e ▸ hloc))
   exact ⟨b2,h2,fun i y hy => let ⟨c,h4,h5⟩ := h3 i y hy; ⟨c,by rw [hout b2 i hb2]; exact h4,keep _ _ h5⟩⟩
 ·obtain ⟨k1,k2,k3⟩ := hs.locs o b ho
  exact ⟨by rw [hsz]; exact k1,k2,fun i => ⟨(k3 i).1,by rw [hfz]; exact (k3 i).2⟩⟩
 ·refine TailOK.mono (hs.locTail o t b r q1 q2) (fun bs q => ⟨bs,q⟩) fun cs q => ?_
  rcases getObj_set q with ⟨rfl,rfl⟩ | ⟨-,q⟩
  ·exact ⟨cells,hob,g1⟩
  ·exact ⟨cs,q,rfl⟩
 ·obtain ⟨k1,k2,kt,k3⟩ := hs.tails t b s e T h
  refine ⟨by rw [hsz]; exact k1,k2,setCells_type _ _ _ _ _ _ kt,fun i hi hi' => ?_⟩
  obtain ⟨⟨c,k4⟩,k5,k6⟩ := k3 i hi hi'
  refine ⟨?_,by rw [hfz]; exact k5,k6⟩
  by_cases hb2 : b = b' ∧ off ≤ i ∧ i < off + v.cells.toList.length
  ·obtain ⟨rfl,h5,h6⟩ := hb2
   have h7 := World.cell?_setCells_in b v.cells.toList off w hin (i - off) (by omega)
   rw [show off + (i - off) = i from by omega] at h7
   exact ⟨_,h7⟩
  ·refine ⟨c,?_⟩
   rw [World.cell?_setCells_out b' _ off w ⟨b,i,none⟩ (fun e1 e2 => by simp only at e1 e2 ⊢; omega)]
   exact k4
end
end Qv

end

section
namespace Qv
open Go Go.RowKit
section
variable {E : Env} {G : Ghost} {S : ASt} {a : Act} {w : World} {o : Oper}
structure Flat (imm : Nat → Nat → Prop) (w : World) (e : Nat) (ys : List (List AV)) (news : List Value) : Prop where
 len : news.length = ys.length * e
 one : ∀ u,u ∈ news → u.oneCell' = true
 at_ : ∀ (i : Nat) (zs : List AV) (j : Nat) (z : AV),ys[i]? = some zs → zs[j]? = some z → ∃ u,news[i * e + j]? = some u ∧ Rep imm w u z ∧ z.one = true
theorem flat_slice {P : Program} {imm : Nat → Nat → Prop} {ys : List (List AV)} {v : Value} {e : Nat} (h : Rep imm w v (.sl ys)) (he : ∀ zs,zs ∈ ys → zs.length = e) :
 ∃ news,Flat imm w e ys news ∧ (Builtin.lenOf v).run P w = .ok ys.length w ∧ ∀ w',(∀ b o,w'.cell? ⟨b,o,none⟩ = w.cell? ⟨b,o,none⟩) → (Builtin.firstCells e ys.length v).run P w' = .ok news.toArray w' := by
 obtain ⟨ad,c,rfl,hc,hne⟩ := h.sl_inv
 by_cases h0 : ys = []
 ·subst h0
  refine ⟨[],⟨by simp,by simp,by simp⟩,by simp [Builtin.lenOf],fun w' _ => ?_⟩
  cases ad <;> simp [Builtin.firstCells,loadCells,loadCellsFrom]
 ·obtain ⟨b,off,esz,cell,rfl,g1,g2⟩ := hne h0
  have hpos : 0 < ys.length := List.length_pos_iff.2 h0
  obtain rfl : esz = e := (g1 0 _ (List.getElem?_eq_getElem hpos)).symm.trans (he _ (List.getElem_mem hpos))
  let f : Nat → Value := fun q => (w.cell? ⟨b,off + q,none⟩).getD undef
  have hq : ∀ q,q < ys.length * esz → ∃ zs z,ys[q / esz]? = some zs ∧ zs[q % esz]? = some z ∧ z.one = true ∧ w.cell? ⟨b,off + q,none⟩ = some (f q) ∧ Rep imm w (f q) z := fun q hq => by
   have hep : 0 < esz := by
    rcases Nat.eq_zero_or_pos esz with h | h
    ·rw [h] at hq; simp at hq
    ·exact h
   have hi : q / esz < ys.length := Nat.div_lt_of_lt_mul (by rw [Nat.mul_comm]; exact hq)
   have hzs := List.getElem?_eq_getElem hi
   have hl := g1 _ _ hzs
   have hj : q % esz < (ys[q / esz]).length := by rw [hl]; exact Nat.mod_lt _ hep
   obtain ⟨k1,k2,k3,k4⟩ := g2 _ _ _ _ hzs (List.getElem?_eq_getElem hj)
   have hqe : off + q / esz * esz + q % esz = off + q := by
    have := Nat.div_add_mod q esz
    rw [Nat.mul_comm] at this
    omega
   rw [hqe] at k2
   have hf : f q = cell (q / esz) (q % esz) := by simp only [f,k2,Option.getD_some]
   exact ⟨_,_,hzs,List.getElem?_eq_getElem hj,k1,by rw [hf]; exact k2,by rw [hf]; exact k4⟩
  refine ⟨(List.range (ys.length * esz)).map f,⟨by simp,fun u hu => ?_,fun i zs j z hi hj => ?_⟩,by simp [Builtin.lenOf],fun w' hw => ?_⟩
  ·obtain ⟨q,hq',rfl⟩ := List.mem_map.1 hu
   obtain ⟨zs,z,-,-,k1,-,k2⟩ := hq q (List.mem_range.1 hq')
   exact k2.oneV k1
  ·have hil := (List.getElem?_eq_some_iff.1 hi).1
   have hjl := (List.getElem?_eq_some_iff.1 hj).1
   rw [g1 i zs hi] at hjl
   have hlt : i * esz + j < ys.length * esz := by
    have : (i + 1) * esz ≤ ys.length * esz := Nat.mul_le_mul_right _ hil
    rw [Nat.add_mul] at this
    omega
   obtain ⟨k1,k2,k3,k4⟩ := g2 _ _ _ _ hi hj
   have hf : f (i * esz + j) = cell i j := by simp only [f,← Nat.add_assoc,k2,Option.getD_some]
   refine ⟨f (i * esz + j),?_,by rw [hf]; exact k4,k1⟩
   rw [List.getElem?_map,List.getElem?_range hlt]
   rfl
  ·have := run_loadCells (P := P) w' ⟨b,off,none⟩ (ys.length * esz) f (fun q hq' => by rw [Addr.add_lit,hw]; obtain ⟨_,_,-,-,-,k,-⟩ := hq q hq'; exact k)
   simpa [Builtin.firstCells] using this
theorem flat_string {P : Program} {imm : Nat → Nat → Prop} {s : List UInt8} {e : Nat} (he : ∀ zs,zs ∈ (s.map fun (b : UInt8) => [AV.int .u8 (b.toNat : Int)]) → zs.length = e) :
 ∃ news,Flat imm w e (s.map fun (b : UInt8) => [AV.int .u8 (b.toNat : Int)]) news ∧ (Builtin.lenOf (.string ⟨s.toArray⟩)).run P w = .ok (s.map fun (b : UInt8) => [AV.int .u8 (b.toNat : Int)]).length w ∧
   ∀ w',(Builtin.firstCells e (s.map fun (b : UInt8) => [AV.int .u8 (b.toNat : Int)]).length (.string ⟨s.toArray⟩)).run P w' = .ok news.toArray w' := by
 have he1 : s ≠ [] → e = 1 := fun h => by
  cases s with
  | nil => exact absurd rfl h
  | cons b s => have := he [AV.int .u8 (b.toNat : Int)] (by simp); simpa using this.symm
 have hsz : (⟨s.toArray⟩ : ByteArray).size = s.length := by simp [ByteArray.size]
 refine ⟨s.map fun b => .int .u8 b.toNat,⟨?_,fun u hu => ?_,fun i zs j z hi hj => ?_⟩,by simp [Builtin.lenOf,hsz],fun w' => ?_⟩
 ·by_cases h0 : s = []
  ·simp [h0]
  ·simp [he1 h0]
 ·obtain ⟨b,-,rfl⟩ := List.mem_map.1 hu; rfl
 ·rw [List.getElem?_map] at hi
  cases hb : s[i]? with
  | none => simp [hb] at hi
  | some b =>
    simp [hb] at hi
    subst hi
    have hne : s ≠ [] := fun e => by rw [e] at hb; simp at hb
    cases j with
    | succ j => simp at hj
    | zero =>
      simp at hj
      subst hj
      refine ⟨.int .u8 b.toNat,?_,.int _ _,rfl⟩
      rw [he1 hne,Nat.mul_one,Nat.add_zero,List.getElem?_map,hb]
      rfl
 ·have hx : (⟨s.toArray⟩ : ByteArray).extract 0 s.length = ⟨s.toArray⟩ := by
   rw [extract_bytes s 0 s.length (Nat.le_refl _)]
   simp
  simp [Builtin.firstCells,hx]
section
variable {P : Program}
theorem run_app_room0 {t u elem ty : TypeId} {d : TypeDesc} {n c : Nat} {base : Option Addr} {yv : Value} {i : TInfo} (ht : P.underlying t = some (.slice elem)) (hu : P.underlying u = some d) (hd : ∀ k,d ≠ .int k) (hi : TabOK P elem i)
 (hl : (Builtin.lenOf yv).run P w = .ok 0 w) (hf : (Builtin.firstCells i.size 0 yv).run P w = .ok #[] w) (hc : n ≤ c) :
 (Builtin.append_ #[t,u] ty #[.slice base n c,yv]).run P w = .ok (.slice base n c) w := by
 have hd' : (match d with | .int _ => true | _ => false) = false := by cases d <;> first | rfl | exact absurd rfl (hd _)
 cases base <;> simp [Builtin.append_,run_underlying ht,run_underlying hu,hi.sizeOf,hd',hl,hf,hc,storeCells]
theorem run_app_room {t u elem ty : TypeId} {d : TypeDesc} {n c m b off : Nat} {yv : Value} {i : TInfo} {news : List Value} (ht : P.underlying t = some (.slice elem)) (hu : P.underlying u = some d) (hd : ∀ k,d ≠ .int k) (hi : TabOK P elem i)
 (hl : (Builtin.lenOf yv).run P w = .ok m w) (hf : (Builtin.firstCells i.size m yv).run P w = .ok news.toArray w) (hc : n + m ≤ c)
 (hcell : ∀ j,j < news.length → (w.cell? ⟨b,off + n * i.size + j,none⟩).isSome = true) (hfz : ∀ j,j < news.length → w.frozen? ⟨b,off + n * i.size + j,none⟩ = false) (h1 : ∀ u,u ∈ news → u.oneCell' = true) :
 (Builtin.append_ #[t,u] ty #[.slice (some ⟨b,off,none⟩) n c,yv]).run P w = .ok (.slice (some ⟨b,off,none⟩) (n + m) c) (w.setCells b (off + n * i.size) news) := by
 have hd' : (match d with | .int _ => true | _ => false) = false := by cases d <;> first | rfl | exact absurd rfl (hd _)
 have hst := run_storeCells_cells (P := P) b (off + n * i.size) news 0 w (by simpa using hcell) (by simpa using hfz) h1
 simp only [Nat.add_zero] at hst
 simp [Builtin.append_,run_underlying ht,run_underlying hu,hi.sizeOf,hd',hl,hf,hc,Addr.add_lit,hst]
theorem run_app_grow {t u elem ty : TypeId} {d : TypeDesc} {n c m : Nat} {base : Option Addr} {yv : Value} {i : TInfo} {olds news : List Value} (ht : P.underlying t = some (.slice elem)) (hu : P.underlying u = some d) (hd : ∀ k,d ≠ .int k) (hi : TabOK P elem i)
 (hl : (Builtin.lenOf yv).run P w = .ok m w) (hf : ∀ w',(∀ b o,w'.cell? ⟨b,o,none⟩ = w.cell? ⟨b,o,none⟩) → (Builtin.firstCells i.size m yv).run P w' = .ok news.toArray w')
 (ho : ∀ w',(∀ b o,w'.cell? ⟨b,o,none⟩ = w.cell? ⟨b,o,none⟩) → (Builtin.firstCells i.size n (.slice base n c)).run P w' = .ok olds.toArray w') (hc : ¬ n + m ≤ c) (hb : (n + m) * i.bytes ≤ 2 ^ 47) (hb0 : i.bytes ≠ 0) :
 ∃ rest z,z.size = i.size ∧ rest = Builtin.zeroCells z (grownCap w (n + m) c elem - (n + m)) ∧
 (Builtin.append_ #[t,u] ty #[.slice base n c,yv]).run P w = .ok (.slice (some ⟨w.heap.size,0,none⟩) (n + m) (grownCap w (n + m) c elem)) (w.drew.alloc (.cells (olds.toArray ++ news.toArray ++ rest) elem)) := by
 have hd' : (match d with | .int _ => true | _ => false) = false := by cases d <;> first | rfl | exact absurd rfl (hd _)
 obtain ⟨inf,z,hinf,hsz,hby,hz,hzc⟩ := hi.info'
 refine ⟨_,z.cells,by rw [← Array.length_toList,hzc,hi.len],rfl,?_⟩
 have hfit := growslice_fits (need := n + m) (old := c) (bytes := i.bytes) (by omega) (by omega)
 have hneed : n + m ≤ 2 ^ 47 := Nat.le_trans (Nat.le_mul_of_pos_right _ (Nat.pos_of_ne_zero hb0)) hb
 have hmax : ¬ (((n + m : Nat) : Int) > IntKind.i64.max) := by
  simp only [IntKind.max,IntKind.signed,IntKind.bits,if_true]
  omega
 have h48 : ¬ Builtin.nextslicecap (n + m) c * i.bytes > 2 ^ 48 := by omega
 have hfw := hf w.drew (fun _ _ => rfl)
 have how := ho w.drew (fun _ _ => rfl)
 have hinf' : ∀ w',(typeInfo elem).run P w' = .ok inf w' := fun w' => run_typeInfo w' hinf
 have hzv : ∀ w',(zeroValue elem).run P w' = .ok z w' := fun w' => by simp [zeroValue,hinf' w',hz]
 have hso : ∀ w',(Go.sizeOf elem).run P w' = .ok i.size w' := fun w' => hi.sizeOf w'
 have h48' : ¬ (281474976710656 < Builtin.nextslicecap (n + m) c * i.bytes) := by omega
 simp [Builtin.append_,run_underlying ht,run_underlying hu,hso,hd',hl,hc,hinf',hby,hb0,h48',Question.forced,how,hfw,hzv,newRow,grownCap]
 have e : ∀ X : Array Value,olds.toArray ++ (news.toArray ++ X) = (olds ++ news).toArray ++ X := fun X => by rw [← Array.append_assoc]; simp
 rw [e]
end
theorem RepF.items {y : FV} {v : Value} {ys : List (List AV)} {P : Program} {e : Nat} (hy : y.items = some ys) (h : RepF G w v y) (he : ∀ zs,zs ∈ ys → zs.length = e) :
 ∃ news,Flat G.imm w e ys news ∧ (Builtin.lenOf v).run P w = .ok ys.length w ∧
   ∀ w',(∀ b o,w'.cell? ⟨b,o,none⟩ = w.cell? ⟨b,o,none⟩) → (Builtin.firstCells e ys.length v).run P w' = .ok news.toArray w' := by
 cases y with
 | p x =>
   cases x with
   | str s =>
     have hys : (s.map fun (b : UInt8) => [AV.int .u8 (b.toNat : Int)]) = ys := by simpa [FV.items] using hy
     subst hys
     obtain rfl := h.str_inv
     obtain ⟨news,h1,h2,h3⟩ := flat_string (P := P) (w := w) (imm := G.imm) he
     exact ⟨news,h1,h2,fun w' _ => h3 w'⟩
   | _ => exact flat_slice (h.elems (by simpa [FV.items] using hy)) he
 | _ => exact flat_slice (h.elems (by simpa [FV.items] using hy)) he
theorem SimG.addTail' (hs : SimG E G S a w) {t B s e : Nat} {T : TypeId} (h0 : G.tail t = none) (h1 : B < w.heap.size) (h2 : E.w0.heap.size ≤ B) (hty : ∃ cs fr,w.heap[B]? = some (.cells cs T fr)) (h3 : ∀ o,G.loc o = some B → TailOK S o t s) (h4 : ∀ t' r,G.tail t' ≠ some (B,r)) (h6 : ∀ o,G.row o ≠ some B)
 (h5 : ∀ i,s ≤ i → i < e → (∃ c,w.cell? ⟨B,i,none⟩ = some c) ∧ w.frozen? ⟨B,i,none⟩ = false ∧ ¬ G.imm B i) :
 SimG E { G with tail := fun t' => if t' = t then some (B,s,e,T) else G.tail t' } S a w := by
 have up : ∀ v x,RepF G w v x → RepF { G with tail := fun t' => if t' = t then some (B,s,e,T) else G.tail t' } w v x := fun v x h =>
  h.keep (fun _ _ h => h) (fun _ _ _ _ h => h) (.refl _ _) (fun _ _ h => h) (fun t' r h => by
   have : t' ≠ t := fun e => by rw [e,h0] at h; cases h
   simp only [if_neg this]; exact h)
 refine ⟨hs.kept,hs.size,hs.ext'.keep rfl rfl rfl up (.refl _),hs.bld.keep rfl rfl (fun o bs q => ⟨q,rfl,rfl⟩) (fun _ _ _ q => q) (fun _ _ e => e) (Nat.le_refl _) (fun _ _ _ _ _ _ => rfl) (fun _ _ _ => rfl) (fun _ _ _ _ e => e) (fun _ _ _ _ e => e) (fun o r t' q e e' => ?_),hs.immB,hs.immLt,fun i hi => up _ _ (hs.tmps i hi),fun o cells ho => ?_,hs.locs,hs.locInj,fun o t' b r h h' => ?_,fun t' b s' e' T' h => ?_,fun t1 t2 b r1 r2 h h' => ?_⟩
 ·simp only at e'
  split at e'
  ·obtain ⟨rfl,-⟩ := Prod.mk.inj (Option.some.inj e')
   exact absurd e (h6 o)
  ·exact ⟨t',q,e'⟩
 ·obtain ⟨b,k1,k2⟩ := hs.objs o cells ho
  exact ⟨b,k1,fun i x hx => let ⟨c,k3,k4⟩ := k2 i x hx; ⟨c,k3,up _ _ k4⟩⟩
 ·simp only at h'
  split at h'
  ·rename_i ht
   have := Option.some.inj h'
   injection this with q1 q2
   subst q1; subst q2; subst ht
   exact h3 o h
  ·exact hs.locTail o t' b r h h'
 ·simp only at h
  split at h
  ·have := Option.some.inj h
   injection this with q1 q2
   injection q2 with q2 q3
   injection q3 with q3 q4
   subst q1; subst q2; subst q3; subst q4
   exact ⟨h1,h2,hty,h5⟩
  ·exact hs.tails t' b s' e' T' h
 ·simp only at h h'
  split at h <;> split at h'
  ·rename_i e1 e2; rw [e1,e2]
  ·obtain ⟨rfl,-⟩ := Prod.mk.inj (Option.some.inj h)
   exact absurd h' (h4 _ _)
  ·obtain ⟨rfl,-⟩ := Prod.mk.inj (Option.some.inj h')
   exact absurd h (h4 _ _)
  ·exact hs.tailInj t1 t2 b r1 r2 h h'
theorem SimG.addTail (hs : SimG E G S a w) {t B s e : Nat} {T : TypeId} (h0 : G.tail t = none) (h1 : B < w.heap.size) (h2 : E.w0.heap.size ≤ B) (hty : ∃ cs fr,w.heap[B]? = some (.cells cs T fr)) (h3 : ∀ o,G.loc o ≠ some B) (h4 : ∀ t' r,G.tail t' ≠ some (B,r)) (h6 : ∀ o,G.row o ≠ some B)
 (h5 : ∀ i,s ≤ i → i < e → (∃ c,w.cell? ⟨B,i,none⟩ = some c) ∧ w.frozen? ⟨B,i,none⟩ = false ∧ ¬ G.imm B i) :
 SimG E { G with tail := fun t' => if t' = t then some (B,s,e,T) else G.tail t' } S a w :=
 hs.addTail' h0 h1 h2 hty (fun o h => (h3 o h).elim) h4 h6 h5
theorem SimG.fillTail (hs : SimG E G S a w) {k b s0 e0 : Nat} {T : TypeId} {news : List Value} (ht : G.tail k = some (b,s0,e0,T)) (hn : s0 + news.length ≤ e0) :
 SimG E { (G.free k) with imm := fun b' o => G.imm b' o ∨ (b' = b ∧ s0 ≤ o ∧ o < s0 + news.length) } (S.kill k) a (w.setCells b s0 news) ∧
 (∀ v x,RepF G w v x → RepF { (G.free k) with imm := fun b' o => G.imm b' o ∨ (b' = b ∧ s0 ≤ o ∧ o < s0 + news.length) } (w.setCells b s0 news) v (x.kill k)) ∧
 (∀ b' i c,G.imm b' i → w.cell? ⟨b',i,none⟩ = some c → (w.setCells b s0 news).cell? ⟨b',i,none⟩ = some c) := by
 obtain ⟨t1,t2,⟨tcs,tfr,tty⟩,t3⟩ := hs.tails k b s0 e0 T ht
 have hcell : ∀ b' i c,G.imm b' i → w.cell? ⟨b',i,none⟩ = some c → (w.setCells b s0 news).cell? ⟨b',i,none⟩ = some c := fun b' i c hi hc => by
  rw [World.cell?_setCells_out b news s0 w ⟨b',i,none⟩ (fun e _ => by
   simp only at e ⊢
   subst e
   by_cases h : s0 ≤ i ∧ i < e0
   ·exact absurd hi (t3 i h.1 h.2).2.2
   ·omega)]
  exact hc
 have hout : ∀ b2 i,b2 ≠ b → (w.setCells b s0 news).cell? ⟨b2,i,none⟩ = w.cell? ⟨b2,i,none⟩ := fun b2 i hne =>
  World.cell?_setCells_out b _ s0 w ⟨b2,i,none⟩ (fun e => absurd e hne)
 have hfz : ∀ x,(w.setCells b s0 news).frozen? x = w.frozen? x := fun x => World.frozen?_setCells b _ s0 w x
 have hsz := setCells_size b news s0 w
 have up : ∀ v x,RepF G w v x → RepF { (G.free k) with imm := fun b' o => G.imm b' o ∨ (b' = b ∧ s0 ≤ o ∧ o < s0 + news.length) } (w.setCells b s0 news) v (x.kill k) := fun v x hv => by
  refine RepF.kill (G := { G with imm := fun b' o => G.imm b' o ∨ (b' = b ∧ s0 ≤ o ∧ o < s0 + news.length) }) k ?_ rfl (fun o b h h' => by simp only [Ghost.free]; rw [if_neg h]; exact h') (fun t r h h' => by simp only [Ghost.free]; rw [if_neg h]; exact h') (hmp := Ghost.free_mp.1) (hit := Ghost.free_mp.2.2.1)
  exact hv.keep (fun _ _ h => .inl h) hcell ((Others.setCells b _ _ _).stands _) (fun _ _ h => h) (fun _ _ h => h)
 have floc : ∀ o b',(G.free k).loc o = some b' → o ≠ k ∧ G.loc o = some b' := fun o b' h => by
  simp only [Ghost.free] at h
  split at h
  ·cases h
  ·rename_i hne; exact ⟨hne,h⟩
 have ftail : ∀ t r,(G.free k).tail t = some r → t ≠ k ∧ G.tail t = some r := fun t r h => by
  simp only [Ghost.free] at h
  split at h
  ·cases h
  ·rename_i hne; exact ⟨hne,h⟩
 have hmv : Moves (FV.kill k) G { (G.free k) with imm := fun b' o => G.imm b' o ∨ (b' = b ∧ s0 ≤ o ∧ o < s0 + news.length) } S (S.kill k) w :=
  .kill2 k (fun b' i es n hb _ h => h.elim id fun h => by rw [h.1,tty] at hb; cases hb) (fun _ h => .inl h) Ghost.free_mp.1 Ghost.free_mp.2.1 Ghost.free_mp.2.2.1 Ghost.free_mp.2.2.2 (fun o b h => (floc o b h).2)
 refine ⟨⟨hs.kept.setCells (.inl t2) _ _,hs.size,hs.ext'.move (S' := S.kill k) (FV.kill k) rfl rfl rfl up (.setCells _ _ _ _) hmv,?_,?_,?_,fun i hi => up _ _ (hs.tmps i hi),fun o cells ho => ?_,fun o b' ho => ?_,fun o o' b' h h' => hs.locInj o o' b' (floc _ _ h).2 (floc _ _ h').2,fun o t b' r h h' => TailOK.kill (hs.locTail o t b' r (floc _ _ h).2 (ftail _ _ h').2) k,fun t b' s e T' h => ?_,fun t t' b' r r' h h' => hs.tailInj t t' b' r r' (ftail _ _ h).2 (ftail _ _ h').2⟩,up,hcell⟩
 ·refine hs.bld.keep rfl rfl (fun o bs q => ?_) (fun o _ _ q => getObj_del_none q) (fun o r e => ?_) (by rw [hsz]; exact Nat.le_refl _) (fun o bs b2 q q2 e => setCells_heap _ _ _ _ _ (fun e2 => by have := (hs.locTail o k b _ (e2 ▸ e) ht).2.1; rw [q] at this; cases this)) (fun o r e => setCells_heap _ _ _ _ _ (fun e2 => (hs.bld.row o r e).2.2.2.2.1 k _ (e2 ▸ ht)))
   (fun o r i e hi => ?_) (fun _ _ o' _ e => (floc o' _ e).2) (fun _ _ t q _ e => ⟨t,q,(ftail t _ e).2⟩)
  ·obtain ⟨q1,q2⟩ := getB_del q
   refine ⟨q2,?_,?_⟩
   ·simp only [Ghost.free]; rw [if_neg q1]
   ·simp only [Ghost.free]; rw [if_neg q1]
  ·simp only [Ghost.free] at e
   split at e
   ·cases e
   ·exact e
  ·rcases hi with hi | ⟨rfl,-,-⟩
   ·exact hi
   ·exact absurd ht ((hs.bld.row o _ e).2.2.2.2.1 k _)
 ·rintro b' o (hi | ⟨rfl,-,-⟩)
  ·exact hs.immB b' o hi
  ·exact .inr t2
 ·rintro b' o (hi | ⟨rfl,-,-⟩)
  ·rw [hsz]; exact hs.immLt b' o hi
  ·rw [hsz]; exact t1
 ·obtain ⟨hne,cs,h2,rfl⟩ := getObj_del ho
  obtain ⟨b',h3,h4⟩ := hs.objs o cs h2
  refine ⟨b',by simp only [Ghost.free]; rw [if_neg hne]; exact h3,fun i x hx => ?_⟩
  rw [FV.killL_eq,List.getElem?_map] at hx
  cases hc : cs[i]? with
  | none => simp [hc] at hx
  | some y =>
    simp [hc] at hx
    subst hx
    obtain ⟨c,h5,h6⟩ := h4 i y hc
    have hb : b' ≠ b := fun e => hne (hs.locTail o k b _ (e ▸ h3) ht).1.symm
    exact ⟨c,by rw [hout b' i hb]; exact h5,up _ _ h6⟩
 ·obtain ⟨hne,ho⟩ := floc o b' ho
  obtain ⟨k1,k2,k3⟩ := hs.locs o b' ho
  have hb : b' ≠ b := fun e => hne (hs.locTail o k b _ (e ▸ ho) ht).1.symm
  refine ⟨by rw [hsz]; exact k1,k2,fun i => ⟨?_,by rw [hfz]; exact (k3 i).2⟩⟩
  rintro (hi | ⟨e,-,-⟩)
  ·exact (k3 i).1 hi
  ·exact hb e
 ·obtain ⟨hne,h⟩ := ftail t _ h
  obtain ⟨k1,k2,kt,k3⟩ := hs.tails t b' s e T' h
  have hb : b' ≠ b := fun e' => hne (hs.tailInj t k b _ _ (e' ▸ h) ht)
  refine ⟨by rw [hsz]; exact k1,k2,setCells_type _ _ _ _ _ _ kt,fun i hi hi' => ?_⟩
  obtain ⟨⟨c,k4⟩,k5,k6⟩ := k3 i hi hi'
  refine ⟨⟨c,by rw [hout b' i hb]; exact k4⟩,by rw [hfz]; exact k5,?_⟩
  rintro (h7 | ⟨e,-,-⟩)
  ·exact k6 h7
  ·exact hb e
theorem kill_none (G : Ghost) (k : Nat) : (G.free k).tail k = none := by simp [Ghost.free]
theorem rep_flat {imm : Nat → Nat → Prop} {W : World} {b off e c : Nat} {xs : List (List AV)} (hc : xs.length ≤ c) (hl : ∀ zs,zs ∈ xs → zs.length = e)
 (h : ∀ (i : Nat) (zs : List AV) (j : Nat) (z : AV),xs[i]? = some zs → zs[j]? = some z → ∃ u,z.one = true ∧ W.cell? ⟨b,off + (i * e + j),none⟩ = some u ∧ imm b (off + (i * e + j)) ∧ Rep imm W u z) :
 Rep imm W (.slice (some ⟨b,off,none⟩) xs.length c) (.sl xs) :=
 Rep.sl_mk hc (fun i ys hys => hl _ (List.mem_of_getElem? hys)) fun i ys j y h1 h2 => by rw [Nat.add_assoc]; exact h i ys j y h1 h2
theorem append_core (hs : SimG E G S a w) {k : Nat} {xs ys : List (List AV)} {ad : Option Addr} {c : Nat} {yv : Value} {t u elem ty : TypeId} {dd : TypeDesc} {i : TInfo} {news : List Value}
 (ht : E.C.P.underlying t = some (.slice elem)) (hu : E.C.P.underlying u = some dd) (hd : ∀ k,dd ≠ .int k) (hi : TabOK E.C.P elem i)
 (hx : Rep G.imm w (.slice ad xs.length c) (.sl xs)) (hlx : ∀ zs,zs ∈ xs → zs.length = i.size) (hly : ∀ zs,zs ∈ ys → zs.length = i.size) (hle : xs.length ≤ c)
 (hroom : (xs = [] ∧ c = 0) ∨ (ys ≠ [] ∧ c = xs.length) ∨ ∃ b off,ad = some ⟨b,off,none⟩ ∧ G.tail k = some (b,off + xs.length * i.size,off + c * i.size,elem))
 (hn : Flat G.imm w i.size ys news) (hl : (Builtin.lenOf yv).run E.C.P w = .ok ys.length w)
 (hf : ∀ w',(∀ b o,w'.cell? ⟨b,o,none⟩ = w.cell? ⟨b,o,none⟩) → (Builtin.firstCells i.size ys.length yv).run E.C.P w' = .ok news.toArray w')
 (hb : (xs.length + ys.length) * i.bytes ≤ 2 ^ 47) (hb0 : i.bytes ≠ 0) :
 ∃ v' w' G',(Builtin.append_ #[t,u] ty #[.slice ad xs.length c,yv]).run E.C.P w = .ok v' w' ∧ SimG E G' (S.kill k) a w' ∧ RepF G' w' v' (.tip k elem i.size (xs ++ ys)) := by
 by_cases h0 : ys = []
 ·subst h0
  have hnews : news = [] := List.length_eq_zero_iff.1 (by rw [hn.len]; simp)
  subst hnews
  refine ⟨_,w,G,run_app_room0 ht hu hd hi hl (hf w fun _ _ => rfl) hle,hs.kill' k rfl (fun _ _ _ h => h) (fun _ _ _ h => h) (fun _ _ h => h) (fun _ _ h => h) (fun _ _ => rfl) (fun _ _ h => h),?_⟩
  have := RepF.tip (G := G) (w := w) k elem i.size xs ad c hx (hroom.imp id fun h => by
   rcases h with ⟨h,-⟩ | ⟨b,off,e1,e2⟩
   ·exact absurd rfl h
   ·exact ⟨b,off,e1,hlx,e2⟩)
  simpa using this
 ·have hm : 0 < ys.length := List.length_pos_iff.2 h0
  by_cases hc : xs.length + ys.length ≤ c
  ·-- there is room
   rcases hroom with hroom | hroom | ⟨b,off,rfl,htl⟩
   ·omega
   ·omega
   ·obtain ⟨t1,t2,tt,t3⟩ := hs.tails _ _ _ _ _ htl
    have hq : off + xs.length * i.size + news.length ≤ off + c * i.size := by
     have := Nat.mul_le_mul_right i.size hc
     rw [Nat.add_mul] at this
     rw [hn.len]; omega
    have hrun := run_app_room (P := E.C.P) (w := w) (ty := ty) (b := b) (off := off) ht hu hd hi hl (hf w fun _ _ => rfl) hc
     (fun j hj => by obtain ⟨⟨u,hu⟩,-,-⟩ := t3 (off + xs.length * i.size + j) (by omega) (by omega); rw [hu]; rfl)
     (fun j hj => (t3 (off + xs.length * i.size + j) (by omega) (by omega)).2.1) hn.one
    obtain ⟨f1,f2,f3⟩ := hs.fillTail (news := news) htl hq
    have hg := f1.addTail (t := k) (B := b) (s := off + xs.length * i.size + news.length) (e := off + c * i.size) (T := elem) (kill_none G k) (by rw [setCells_size]; exact t1) t2 (setCells_type _ _ _ _ _ _ tt)
     (fun o h => by simp only [Ghost.free] at h; split at h; cases h; rename_i hne; exact hne (hs.locTail o k b _ h htl).1.symm)
     (fun t' r h => by
      simp only [Ghost.free] at h
      split at h
      ·cases h
      ·rename_i hne; exact hne (hs.tailInj t' k b _ _ h htl))
     (fun o h => by simp only [Ghost.free] at h; split at h; cases h; exact (hs.bld.row o b h).2.2.2.2.1 k _ htl)
     (fun j hj hj' => by
      obtain ⟨⟨u,hu⟩,g2,g3⟩ := t3 j (by omega) (by omega)
      refine ⟨⟨u,?_⟩,by rw [World.frozen?_setCells]; exact g2,?_⟩
      ·rw [World.cell?_setCells_out b news _ w ⟨b,j,none⟩ (fun _ _ => by simp only; omega)]; exact hu
      ·rintro (h | ⟨-,-,h⟩)
       ·exact g3 h
       ·omega)
    refine ⟨_,_,_,hrun,hg,?_⟩
    have hlen : (xs ++ ys).length = xs.length + ys.length := List.length_append
    suffices h : RepF _ (w.setCells b (off + xs.length * i.size) news) (.slice (some ⟨b,off,none⟩) (xs ++ ys).length c) (.tip k elem i.size (xs ++ ys)) by
     rw [hlen] at h; exact h
    refine .tip k elem i.size (xs ++ ys) _ c ?_ (.inr ⟨b,off,rfl,fun zs hz => (List.mem_append.1 hz).elim (hlx zs) (hly zs),?_⟩)
    ·refine rep_flat (by omega) (fun zs hz => (List.mem_append.1 hz).elim (hlx zs) (hly zs)) fun p zs j z hp hj => ?_
     have hjl : j < i.size := by
      have h1 := (List.getElem?_eq_some_iff.1 hj).1
      have h2 : zs ∈ xs ++ ys := List.mem_of_getElem? hp
      rw [(List.mem_append.1 h2).elim (hlx zs) (hly zs)] at h1
      exact h1
     rw [List.getElem?_append] at hp
     by_cases hpl : p < xs.length
     ·rw [if_pos hpl] at hp
      obtain ⟨_,_,hv,-,hne⟩ := hx.sl_inv
      obtain ⟨b2,off2,esz,cell,rfl,g1,g2⟩ := hne (fun e => by rw [e] at hpl; simp at hpl)
      injection hv with e1 e2 e3
      have e1 := Option.some.inj e1
      injection e1 with q1 q2
      subst q1; subst q2
      obtain rfl : esz = i.size := (g1 p _ hp).symm.trans (hlx _ (List.mem_of_getElem? hp))
      obtain ⟨k1,k2,k3,k4⟩ := g2 _ _ _ _ hp hj
      rw [Nat.add_assoc] at k2 k3
      exact ⟨_,k1,f3 _ _ _ k3 k2,.inl k3,k4.keep (fun _ _ h => .inl h) f3 ((Others.setCells b _ _ _).stands _)⟩
     ·rw [if_neg hpl] at hp
      obtain ⟨u,k1,k2,k3⟩ := hn.at_ _ _ _ _ hp hj
      have hul : (p - xs.length) * i.size + j < news.length := (List.getElem?_eq_some_iff.1 k1).1
      have hadr : off + (p * i.size + j) = off + xs.length * i.size + ((p - xs.length) * i.size + j) := by
       have : p = xs.length + (p - xs.length) := by omega
       have h2 : p * i.size = xs.length * i.size + (p - xs.length) * i.size := by rw [← Nat.add_mul,← this]
       omega
      have hin := World.cell?_setCells_in b news (off + xs.length * i.size) w (fun q hq' => by
       obtain ⟨⟨u,hu⟩,-,-⟩ := t3 (off + xs.length * i.size + q) (by omega) (by omega); rw [hu]; rfl) _ hul
      refine ⟨u,k3,?_,.inr ⟨rfl,by omega,by omega⟩,k2.keep (fun _ _ h => .inl h) f3 ((Others.setCells b _ _ _).stands _)⟩
      rw [hadr,hin]
      exact congrArg some ((List.getElem?_eq_some_iff.1 k1).2)
    ·simp only [if_true]
     rw [hn.len,hlen,Nat.add_mul,Nat.add_assoc]
  ·-- a new array
   obtain ⟨olds,ho1,-,ho3⟩ := flat_slice (P := E.C.P) hx hlx
   obtain ⟨rest,z,hz,hrest,hrun⟩ := run_app_grow (P := E.C.P) (w := w) (ty := ty) (base := ad) (news := news) (olds := olds) ht hu hd hi hl hf ho3 hc hb hb0
   have hcap : xs.length + ys.length ≤ grownCap w (xs.length + ys.length) c elem := grownCap_ge w _ _ _
   generalize hcg : grownCap w (xs.length + ys.length) c elem = cap at *
   generalize hW : w.drew.alloc (.cells (olds.toArray ++ news.toArray ++ rest) elem) = W at *
   have hbel : Below w.drew.heap.size w.drew W := by rw [← hW]; exact (Below.refl _ _).alloc (Nat.le_refl _) _
   have hWs : W.heap.size = w.heap.size + 1 := by rw [← hW]; simp
   have hrl : rest.size = (cap - (xs.length + ys.length)) * i.size := by rw [hrest,size_zeroCells,hz]
   have hcell : ∀ q,W.cell? ⟨w.heap.size,q,none⟩ = (olds.toArray ++ news.toArray ++ rest)[q]? := fun q => by
    rw [← hW]; exact World.cell?_alloc_new w.drew _ elem q
   have hfz : ∀ q,W.frozen? ⟨w.heap.size,q,none⟩ = false := fun q => by
    rw [← hW]; exact World.frozen?_alloc_new w.drew _ elem q
   have hold : ∀ b q,b < w.heap.size → W.cell? ⟨b,q,none⟩ = w.cell? ⟨b,q,none⟩ := fun b q hlt => by
    rw [← hW]; exact World.cell?_alloc_lt w.drew _ ⟨b,q,none⟩ hlt
   have h1 := (hs.drew.extN (w' := W) hbel (fun b q => b = w.heap.size ∧ q < (xs.length + ys.length) * i.size)).kill k
   have hg := h1.addTail (t := k) (B := w.heap.size) (s := (xs.length + ys.length) * i.size) (e := cap * i.size) (T := elem) (kill_none _ k) (by rw [hWs]; omega) hs.kept.size
    (by rw [← hW]; exact ⟨_,_,World.alloc_heap_new w.drew _⟩)
    (fun o h => by
     simp only [Ghost.free] at h
     split at h
     ·cases h
     ·have := (hs.locs o _ h).1; omega)
    (fun t' r h => by
     simp only [Ghost.free] at h
     split at h
     ·cases h
     ·have := (hs.tails t' _ r.1 r.2.1 r.2.2 h).1; omega)
    (fun o h => by
     simp only [Ghost.free] at h
     split at h
     ·cases h
     ·have := (hs.bld.row o _ h).2.1; omega)
    (fun q hq hq' => by
     refine ⟨?_,hfz q,?_⟩
     ·rw [hcell q]
      have : q < (olds.toArray ++ news.toArray ++ rest).size := by
       simp only [Array.size_append,List.size_toArray,ho1.len,hn.len,hrl,← Nat.add_mul]
       rw [show xs.length + ys.length + (cap - (xs.length + ys.length)) = cap from by omega]
       exact hq'
      exact ⟨_,Array.getElem?_eq_getElem this⟩
     ·rintro (h | ⟨-,-,-,h⟩)
      ·have := hs.immLt _ _ h; omega
      ·omega)
   refine ⟨_,W,_,hrun,hg,?_⟩
   have hlen : (xs ++ ys).length = xs.length + ys.length := List.length_append
   suffices h : RepF _ W (.slice (some ⟨w.heap.size,0,none⟩) (xs ++ ys).length cap) (.tip k elem i.size (xs ++ ys)) by
    rw [hlen] at h; exact h
   have hkeep : ∀ {u : Value} {z : AV},Rep G.imm w u z → Rep (fun b o => G.imm b o ∨ (w.drew.heap.size ≤ b ∧ b < W.heap.size ∧ b = w.heap.size ∧ o < (xs.length + ys.length) * i.size)) W u z := fun h =>
    h.keep (fun _ _ h => .inl h) (fun b o c hi hc => by rw [hold b o (hs.immLt b o hi)]; exact hc) (fun b es n hi hb => (hbel.block b (hs.immLt b 0 hi)).trans hb)
   refine .tip k elem i.size (xs ++ ys) _ cap ?_ (.inr ⟨w.heap.size,0,rfl,fun zs hz => (List.mem_append.1 hz).elim (hlx zs) (hly zs),?_⟩)
   ·refine rep_flat (by omega) (fun zs hz => (List.mem_append.1 hz).elim (hlx zs) (hly zs)) fun p zs j z hp hj => ?_
    have hjl : j < i.size := by
     have h1 := (List.getElem?_eq_some_iff.1 hj).1
     have h2 : zs ∈ xs ++ ys := List.mem_of_getElem? hp
     rw [(List.mem_append.1 h2).elim (hlx zs) (hly zs)] at h1
     exact h1
    have hpl : p < xs.length + ys.length := by rw [← hlen]; exact (List.getElem?_eq_some_iff.1 hp).1
    have hqlt : p * i.size + j < (xs.length + ys.length) * i.size := by
     have : (p + 1) * i.size ≤ (xs.length + ys.length) * i.size := Nat.mul_le_mul_right _ hpl
     rw [Nat.add_mul] at this
     omega
    rw [Nat.zero_add]
    have himm : (fun b o => G.imm b o ∨ (w.drew.heap.size ≤ b ∧ b < W.heap.size ∧ b = w.heap.size ∧ o < (xs.length + ys.length) * i.size)) w.heap.size (p * i.size + j) := .inr ⟨Nat.le_refl _,by rw [hWs]; omega,rfl,hqlt⟩
    rw [List.getElem?_append] at hp
    by_cases hpl' : p < xs.length
    ·rw [if_pos hpl'] at hp
     obtain ⟨u,k1,k2,k3⟩ := ho1.at_ _ _ _ _ hp hj
     have hul := (List.getElem?_eq_some_iff.1 k1).1
     refine ⟨u,k3,?_,himm,hkeep k2⟩
     rw [hcell,Array.append_assoc,Array.getElem?_append_left (by simpa using hul)]
     simpa using k1
    ·rw [if_neg hpl'] at hp
     obtain ⟨u,k1,k2,k3⟩ := hn.at_ _ _ _ _ hp hj
     have hul := (List.getElem?_eq_some_iff.1 k1).1
     have hadr : p * i.size + j = olds.length + ((p - xs.length) * i.size + j) := by
      have : p = xs.length + (p - xs.length) := by omega
      have h2 : p * i.size = xs.length * i.size + (p - xs.length) * i.size := by rw [← Nat.add_mul,← this]
      rw [ho1.len]; omega
     refine ⟨u,k3,?_,himm,hkeep k2⟩
     rw [hcell,Array.getElem?_append_left (by simp; omega),Array.getElem?_append_right (by simp; omega),hadr]
     simp [k1]
   ·simp only [if_true,hlen,Nat.zero_add]
end
end Qv

end

section
namespace Qv
open Go Go.RowKit
section
variable {E : Env} {G : Ghost} {S : ASt} {a : Act} {w : World} {o : Oper}
theorem setN_of {α : Type} {xs : List α} {n : Nat} {y : α} (h : n < xs.length) : setN xs n y = some (xs.set n y) := by
 induction xs generalizing n with
 | nil => simp at h
 | cons x xs ih =>
   cases n with
   | zero => simp [setN]
   | succ n => simp only [setN,ih (by simpa using h),List.set_cons_succ]
theorem setRange_mid {α : Type} {A B : List α} {base : Nat} (hA : A.length = base) : ∀ {cs ys zs : List α} {off : Nat},setRange ys off cs = some zs → setRange (A ++ (ys ++ B)) (base + off) cs = some (A ++ (zs ++ B))
 | [],ys,zs,off,h => by
   simp only [setRange,Option.some.injEq] at h ⊢
   rw [h]
 | c :: cs,ys,zs,off,h => by
   simp only [setRange] at h ⊢
   split at h
   ·rename_i us hus
    obtain ⟨h1,rfl⟩ := setN_some hus
    rw [setN_of (by simp; omega)]
    simp only
    rw [List.set_append_right _ _ (by omega),hA,show base + off - base = off by omega,List.set_append_left _ _ h1]
    exact setRange_mid hA h
   ·cases h
theorem getB_del_self (d : Nat) (l : List (Nat × List UInt8)) : getB (delB d l) d = none := by
 cases hq : getB (delB d l) d with
 | none => rfl
 | some bs => exact absurd rfl (getB_del hq).1
theorem buildSlice_run (hs : SimG E G S a w) {t e : TypeId} {len : Nat} {parts : Array (Nat × Operand)} {j : TInfo} {cs : List FV} {sa sb : Nat} {sz : List Value} (ho : o.op = .buildSlice t len parts)
 (ht : tabGet E.C.tab t = some ⟨sa,sb,.slice e,sz⟩) (hj : tabGet E.C.tab e = some j) (hle' : len * j.size ≤ 1000000) (hcs : placeElems j.size S parts.toList (repl len (j.zero.map FV.ofVal1)) = some cs) :
 ∃ us : Array Value,(execOp a.eval o).run E.C.P w = .ok (.value (.slice (some ⟨w.heap.size,0,none⟩) len len)) (w.alloc (.cells us e)) ∧ RepL G w us.toList cs ∧ us.size = len * j.size := by
 have hu := (E.C.ok ht).slice
 have hok := E.C.ok hj
 obtain ⟨z,hzr,hzc⟩ := hok.zeroV w
 have hzsz : z.cells.size = j.size := by rw [← Array.length_toList,hzc,hok.len]
 have hbase : ∀ zz : Array Value,(len * j.size = 0 ∨ zz = z.cells) → ((Array.range (len * j.size)).map (zz[· % zz.size]!)).toList = repl len j.zero := fun zz hzz => by
  obtain ⟨r1,r2⟩ := repl_get j.zero len
  rw [hok.len] at r1 r2
  apply List.ext_getElem?
  intro i
  by_cases hi : i < len * j.size
  ·rcases hzz with h0 | rfl
   ·omega
   ·rw [r2 i hi,← hzc,hzsz]
    have hjp : 0 < j.size := by
     rcases Nat.eq_zero_or_pos j.size with h0 | h0
     ·rw [h0] at hi; simp at hi
     ·exact h0
    have hm : i % j.size < z.cells.size := by rw [hzsz]; exact Nat.mod_lt _ hjp
    simp [hi,hm]
  ·rw [List.getElem?_eq_none (by simp; omega),List.getElem?_eq_none (by omega)]
 have hrl : ∀ zz : Array Value,(len * j.size = 0 ∨ zz = z.cells) → RepL G w ((Array.range (len * j.size)).map (zz[· % zz.size]!)).toList (repl len (j.zero.map FV.ofVal1)) := fun zz hzz => by
  rw [hbase zz hzz,repl_map]
  exact repL_zero _
 obtain ⟨us,hus,hrep⟩ : ∃ us,(∀ zz : Array Value,(len * j.size = 0 ∨ zz = z.cells) → Instr.fill (fun i => some (i * j.size,j.size)) ((Array.range (len * j.size)).map (zz[· % zz.size]!)) (parts.toList.map fun (i,x) => (i,a.eval x)) = some us) ∧ RepL G w us.toList cs := by
  obtain ⟨us,h3,h4⟩ := placeElems_fill hs parts.toList _ _ _ (hrl z.cells (.inr rfl)) hcs
  refine ⟨us,fun zz hzz => ?_,h4⟩
  have : (Array.range (len * j.size)).map (zz[· % zz.size]!) = (Array.range (len * j.size)).map (z.cells[· % z.cells.size]!) := Array.toList_inj.1 ((hbase zz hzz).trans (hbase z.cells (.inr rfl)).symm)
  rw [this]; exact h3
 have hbig : ¬ len * j.size > 2 ^ 24 := by omega
 have hrun : (execOp a.eval o).run E.C.P w = .ok (.value (.slice (some ⟨w.heap.size,0,none⟩) len len)) (w.alloc (.cells us e)) := by
  by_cases h0 : len * j.size = 0
  ·have h5 := hus #[] (.inl h0)
   have h5' : Instr.fill (fun i => some (i * j.size,j.size)) #[] (List.map (fun x => (x.1,a.eval x.2)) parts.toList) = some us := by
    have h6 : (Array.range (len * j.size)).map ((#[] : Array Value)[· % (#[] : Array Value).size]!) = #[] := by rw [h0]; simp
    rw [h6] at h5; exact h5
   have hm0 : ∀ f : Nat → Value,(Array.range 0).map f = #[] := fun f => by simp
   simp only [execOp,ho,Instr.buildSlice,Sem.run_bind,run_underlying hu,Result.andThen_ok,hok.sizeOf,hbig,if_false,h0,if_true,Sem.run_pure,Array.toList_map]
   simp only [show ¬ (0 > 2 ^ 24) from by omega,if_false,Sem.run_pure,Result.andThen_ok,hm0,h5']
   simp [newRow]
  ·have h5 := hus z.cells (.inr rfl)
   simp only [execOp,ho,Instr.buildSlice,Sem.run_bind,run_underlying hu,Result.andThen_ok,hok.sizeOf,hbig,if_false,h0,Sem.run_pure,hzr,Array.toList_map]
   simp only [h5]
   simp [newRow]
 have hlen : us.size = len * j.size := by
  have h6 : us.size = cs.length := by rw [← hrep.1]; simp
  have h7 : ∀ (parts : List (Nat × Operand)) (xs zs : List FV),placeElems j.size S parts xs = some zs → zs.length = xs.length := by
   intro parts
   induction parts with
   | nil => intro xs zs h; simp only [placeElems,Option.some.injEq] at h; rw [h]
   | cons p parts ih =>
     obtain ⟨i,x⟩ := p
     intro xs zs h
     simp only [placeElems] at h
     split at h
     ·split at h
      ·cases h
      ·rename_i us hus
       rw [ih _ _ h,(setRange_some hus).1]
     ·cases h
  rw [h6,h7 _ _ _ hcs,(repl_get _ _).1]
  simp [hok.len]
 exact ⟨us,hrun,hrep,hlen⟩
theorem cellsOf_type (w : World) (us : Array Value) (e : TypeId) : ∃ cs fr,(w.alloc (.cells us e)).heap[w.heap.size]? = some (.cells cs e fr) := ⟨_,_,World.alloc_heap_new w _⟩
theorem wp_openSlice (hs : SimG E G S a w) {t e : TypeId} {len : Nat} {parts : Array (Nat × Operand)} {d0 : Nat} {K : ASt → Prop} {sa sb : Nat} {sz : List Value} (ho : o.op = .buildSlice t len parts) (hd0 : o.dst = some d0)
 (ht : tabGet E.C.tab t = some ⟨sa,sb,.slice e,sz⟩) (h : evOpenSlice E.C S e d0 len parts.toList K) {next : Act → World → Prop} {Q : Exit → Act → World → Prop}
 (hn : ∀ S' a' w',K S' → Sim E S' a' w' → next a' w') : Owp E o a w next Q := by
 unfold evOpenSlice evOpenCells at h
 split at h
 ·exact h.elim
 ·rename_i j hj
  split at h
  ·rename_i hle h0
   have hpos : 0 < j.size := Nat.pos_of_ne_zero (Nat.ne_of_beq_eq_false h0)
   split at h
   ·rename_i cs hcs
    split at h
    ·exact h.elim
    ·rw [forceL_eq,withNmL_eq] at h
     obtain ⟨hdn,h⟩ := h
     have hdn := Nat.ne_of_beq_eq_false hdn
     obtain ⟨us,hrun,hrep,hsz⟩ := buildSlice_run hs ho ht hj (Nat.le_of_ble_eq_true hle) hcs
     generalize hd : S.off + d0 = d at h hdn
     obtain ⟨G2,g1,g2,g3,g4,g5,g6,g7,g8⟩ := newObj_base hs d hdn us.toList cs e fun i x hx => by
      have hl : i < us.toList.length := by rw [hrep.1]; exact (List.getElem?_eq_some_iff.1 hx).1
      exact ⟨_,List.getElem?_eq_getElem hl,hrep.2 i _ x (List.getElem?_eq_getElem hl) hx⟩
     rw [Array.toArray_toList] at g1
     have hcl : cs.length = len * j.size := by rw [← hrep.1,Array.length_toList,hsz]
     have hg := g1.addTail' (t := d) (B := w.heap.size) (s := len * j.size) (e := len * j.size) (T := e) g4 (by simp) hs.kept.size (cellsOf_type w us e)
      (fun o q => by
       have : o = d := Classical.byContradiction fun hne => g6 o hne q
       subst this
       refine ⟨rfl,?_,fun cells hc => ?_⟩
       ·exact getB_del_self _ _
       ·simp only [Qv.getObj,Nat.beq_refl] at hc
        obtain rfl := Option.some.inj hc
        rw [FV.killL_eq,List.length_map,hcl])
      (fun t' r q => g5 t' r q) (fun o q => g7 o q) (fun i h1 h2 => by omega)
     refine wp_value hrun ?_
     rw [hd0]
     exact hn _ _ _ h ⟨_,hg.put (some d0) (x := .osl d e j.size) (.osl d e j.size len len w.heap.size g2 (by simp) (Nat.le_refl _) hpos)⟩
   ·exact h.elim
  ·exact h.elim
theorem wp_make (hs : SimG E G S a w) {t : TypeId} {len cap : Operand} {d0 : Nat} {K : ASt → Prop} (ho : o.op = .makeSlice t len cap) (hd0 : o.dst = some d0)
 (h : evMake E.C S t d0 (S.val len) (S.val cap) K) {next : Act → World → Prop} {Q : Exit → Act → World → Prop}
 (hn : ∀ S' a' w',K S' → Sim E S' a' w' → next a' w') : Owp E o a w next Q := by
 have hlv := RepF.val hs len
 have hcv := RepF.val hs cap
 generalize S.val len = vl at h hlv
 generalize S.val cap = vc at h hcv
 unfold evMake at h
 split at h
 ·rename_i e _ ht
  have hu := (E.C.ok ht).slice
  split at h
  ·rename_i bytes sh z hj
   have hok := E.C.ok hj
   split at h
   ·rename_i k n k' n'
    obtain ⟨m,rfl,rfl,hb,h63,h⟩ := h
    rw [withNmL_eq] at h
    obtain ⟨hdn,cs,rfl,h⟩ := h
    have hdn := Nat.ne_of_beq_eq_false hdn
    have e1 := hlv.int_inv
    have e2 := hcv.int_inv
    obtain ⟨inf,z',hi,hsz,hby,hz,hzc⟩ := hok.info'
    simp only at hsz hby hzc
    have hzc' : z'.cells = #[z] := by apply Array.toList_inj.1; rw [hzc]
    have hrun := run_make (P := E.C.P) w t e inf z' hu hi hz k k' (m : Int) (m : Int) (by omega) (by omega) (by rw [hby,← Int.natCast_mul]; omega) (by omega)
    rw [hzc',hsz,Int.toNat_natCast,Nat.mul_one] at hrun
    have hmc : madeCells #[z] m = (List.replicate m z).toArray := by
     apply Array.toList_inj.1
     apply List.ext_getElem?
     intro i
     simp only [madeCells,Array.toList_map,List.getElem?_map,Array.toList_range,List.getElem?_replicate]
     by_cases hi : i < m
     ·rw [List.getElem?_range hi,if_pos hi]
      simp [Nat.mod_one]
     ·rw [if_neg hi,List.getElem?_eq_none (by simp; omega)]
      rfl
    rw [hmc] at hrun
    generalize hd : S.off + d0 = d at h hdn
    obtain ⟨G2,g1,g2,g3,g4,g5,g6,g7,g8⟩ := newObj_base hs d hdn (List.replicate m z) (List.replicate m (FV.ofVal1 z)) e fun i x hx => by
     rw [List.getElem?_replicate] at hx
     split at hx
     ·rename_i hi
      obtain rfl := Option.some.inj hx
      exact ⟨z,by rw [List.getElem?_replicate,if_pos hi],repF_ofVal1 _ _ _⟩
     ·cases hx
    have hg := g1.addTail' (t := d) (B := w.heap.size) (s := m * 1) (e := m * 1) (T := e) g4 (by simp) hs.kept.size (cellsOf_type w _ e)
     (fun o q => by
      have : o = d := Classical.byContradiction fun hne => g6 o hne q
      subst this
      refine ⟨rfl,getB_del_self _ _,fun cells hc => ?_⟩
      simp only [Qv.getObj,Nat.beq_refl] at hc
      obtain rfl := Option.some.inj hc
      rw [FV.killL_eq,List.length_map,List.length_replicate,Nat.mul_one])
     (fun t' r q => g5 t' r q) (fun o q => g7 o q) (fun i h1 h2 => by omega)
    refine wp_value (v := .slice (some ⟨w.heap.size,0,none⟩) m m) (w' := w.alloc (.cells (List.replicate m z).toArray e)) ?_ ?_
    ·simp [execOp,ho,e1,e2,hrun]
    ·rw [hd0]
     exact hn _ _ _ h ⟨_,hg.put (some d0) (x := .osl d e 1) (.osl d e 1 m m w.heap.size g2 (by simp) (Nat.le_refl _) (by omega))⟩
   ·exact h.elim
  ·exact h.elim
 ·exact h.elim
theorem open_cells {P : Program} (hs : SimG E G S a w) {k n c b : Nat} {esz : Nat} {T : TypeId} {xs : List FV} (hk : Qv.getObj S.objs k = some xs) (hl : G.loc k = some b) (ht : G.tail k = some (b,n * esz,c * esz,T)) :
 ∃ news : List Value,news.length = n * esz ∧ (∀ (i : Nat) (x : FV),xs[i]? = some x → ∃ u,news[i]? = some u ∧ RepF G w u x) ∧
   ∀ w',(∀ b o,w'.cell? ⟨b,o,none⟩ = w.cell? ⟨b,o,none⟩) → (Builtin.firstCells esz n (.slice (some ⟨b,0,none⟩) n c)).run P w' = .ok news.toArray w' := by
 have hlen := (hs.locTail k k b _ hl ht).2.2 xs hk
 simp only at hlen
 obtain ⟨b',h1,h2⟩ := hs.objs k xs hk
 obtain rfl : b' = b := by rw [hl] at h1; exact (Option.some.inj h1).symm
 let f : Nat → Value := fun q => (w.cell? ⟨b',q,none⟩).getD undef
 have hf : ∀ q,q < n * esz → w.cell? ⟨b',q,none⟩ = some (f q) := fun q hq => by
  have hql : q < xs.length := by omega
  obtain ⟨u,h3,-⟩ := h2 q _ (List.getElem?_eq_getElem hql)
  simp only [f,h3,Option.getD_some]
 refine ⟨(List.range (n * esz)).map f,by simp,fun i x hx => ?_,fun w' hw => ?_⟩
 ·have hi : i < n * esz := by rw [← hlen]; exact (List.getElem?_eq_some_iff.1 hx).1
  obtain ⟨u,h3,h4⟩ := h2 i x hx
  refine ⟨f i,by rw [List.getElem?_map,List.getElem?_range hi]; rfl,?_⟩
  simp only [f,h3,Option.getD_some]
  exact h4
 ·have := run_loadCells (P := P) w' ⟨b',0,none⟩ (n * esz) f (fun q hq' => by rw [Addr.add_lit,hw,Nat.zero_add]; exact hf q hq')
  simpa [Builtin.firstCells] using this
theorem SimG.fillOpen (hs : SimG E G S a w) {k b s0 e0 : Nat} {T : TypeId} {xs ys : List FV} {news : List Value} (hk : Qv.getObj S.objs k = some xs) (hl : G.loc k = some b) (ht : G.tail k = some (b,s0,e0,T))
 (hn : s0 + news.length ≤ e0) (hr : ∀ (i : Nat) (x : FV),ys[i]? = some x → ∃ u,news[i]? = some u ∧ RepF G w u x) (hlen : ys.length = news.length) :
 SimG E { G with tail := fun t => if t = k then some (b,s0 + news.length,e0,T) else G.tail t } { S.kill k with objs := (k,FV.killL k (xs ++ ys)) :: delObj k S.objs } a (w.setCells b s0 news) := by
 obtain ⟨t1,t2,tt,t3⟩ := hs.tails k b s0 e0 T ht
 obtain ⟨-,l2,l3⟩ := hs.locs k b hl
 obtain ⟨-,hnb,hxl0⟩ := hs.locTail k k b _ hl ht
 have hxl : xs.length = s0 := hxl0 xs hk
 clear hxl0
 obtain ⟨b',hb',hcell⟩ := hs.objs k xs hk
 obtain rfl : b' = b := by rw [hl] at hb'; exact (Option.some.inj hb').symm
 have hout : ∀ b2 i,b2 ≠ b' → (w.setCells b' s0 news).cell? ⟨b2,i,none⟩ = w.cell? ⟨b2,i,none⟩ := fun b2 i hne =>
  World.cell?_setCells_out b' _ s0 w ⟨b2,i,none⟩ (fun e => absurd e hne)
 have hfz : ∀ x,(w.setCells b' s0 news).frozen? x = w.frozen? x := fun x => World.frozen?_setCells b' _ s0 w x
 have hsz := setCells_size b' news s0 w
 let G' : Ghost := { G with tail := fun t => if t = k then some (b',s0 + news.length,e0,T) else G.tail t }
 have up : ∀ v x,RepF G w v x → RepF G' (w.setCells b' s0 news) v (x.kill k) := fun v x hv => by
  have h1 : RepF { G with tail := fun t => if t = k then none else G.tail t } w v (x.kill k) := hv.kill k rfl (fun _ _ _ h => h) (fun t r hne h => by simp only; rw [if_neg hne]; exact h)
  refine h1.keep (fun _ _ h => h) (fun b2 i c hi hc => ?_) ((Others.setCells b' _ _ _).stands _) (fun _ _ h => h) (fun t r h => ?_)
  ·rw [hout b2 i (fun e => (l3 i).1 (e ▸ hi))]; exact hc
  ·simp only at h
   split at h
   ·cases h
   ·rename_i hne
    simp only [G',if_neg hne]; exact h
 refine ⟨hs.kept.setCells (l2.imp (·.1) (·.2)) _ _,hs.size,hs.ext'.move (S' := { S.kill k with objs := (k,FV.killL k (xs ++ ys)) :: delObj k S.objs }) (FV.kill k) rfl rfl rfl up (.setCells b' _ _ _) (.killG k rfl rfl (.kill k rfl (fun _ _ _ h => h) (fun _ _ h => h) (fun _ _ _ h => h) (fun _ _ h => h) fun _ _ h => h)),?_,hs.immB,fun b o h => by rw [hsz]; exact hs.immLt b o h,fun i hi => up _ _ (hs.tmps i hi),fun o cs ho => ?_,fun o b ho => ?_,hs.locInj,fun o t b r h h' => ?_,fun t b s e T' h => ?_,fun t t' b r r' h h' => ?_⟩
 ·refine hs.bld.keep rfl rfl (fun o bs q => ⟨(getB_del q).2,rfl,rfl⟩) (fun o bs q0 q => ?_) (fun _ _ e => e) (by rw [hsz]; exact Nat.le_refl _) (fun o bs b q q2 e => setCells_heap _ _ _ _ _ (fun e2 => ?_)) (fun o r e => setCells_heap _ _ _ _ _ (fun e2 => (hs.bld.row o r e).2.2.2.1 k (e2 ▸ hl)))
   (fun _ _ _ _ e => e) (fun _ _ _ _ e => e) (fun o r t q _ e => ?_)
  ·simp only [Qv.getObj]
   split
   ·rename_i hbq
    obtain rfl := Nat.eq_of_beq_eq_true hbq
    exact absurd rfl (getB_del q0).1
   ·exact getObj_del_none q
  ·have := hs.locInj o k b e (e2 ▸ hl)
   subst this
   rw [hnb] at q; cases q
  ·simp only at e
   split at e
   ·obtain ⟨rfl,-⟩ := Prod.mk.inj (Option.some.inj e)
    exact ⟨k,_,ht⟩
   ·exact ⟨t,q,e⟩
 ·simp only [Qv.getObj] at ho
  split at ho
  ·rename_i hbq
   obtain rfl := Nat.eq_of_beq_eq_true hbq
   obtain rfl := Option.some.inj ho
   refine ⟨b',hl,fun i x hx => ?_⟩
   rw [FV.killL_eq,List.getElem?_map] at hx
   cases hy : (xs ++ ys)[i]? with
   | none => rw [hy] at hx; cases hx
   | some y =>
     rw [hy] at hx
     obtain rfl := Option.some.inj hx
     by_cases hi : i < xs.length
     ·rw [List.getElem?_append_left hi] at hy
      obtain ⟨c,h2,h3⟩ := hcell i y hy
      refine ⟨c,?_,up _ _ h3⟩
      rw [World.cell?_setCells_out b' _ s0 w ⟨b',i,none⟩ (fun _ _ => by simp only; omega)]
      exact h2
     ·rw [List.getElem?_append_right (by omega)] at hy
      obtain ⟨u,h2,h3⟩ := hr _ y hy
      have hul : i - xs.length < news.length := (List.getElem?_eq_some_iff.1 h2).1
      have hin := World.cell?_setCells_in b' news s0 w (fun q hq' => by
       obtain ⟨⟨u,hu⟩,-,-⟩ := t3 (s0 + q) (by omega) (by omega); rw [hu]; rfl) _ hul
      rw [show s0 + (i - xs.length) = i by omega] at hin
      refine ⟨u,?_,up _ _ h3⟩
      rw [hin]
      exact congrArg some ((List.getElem?_eq_some_iff.1 h2).2)
  ·rename_i hbq
   obtain ⟨hne,cs0,h2,rfl⟩ := getObj_del ho
   obtain ⟨b2,h3,h4⟩ := hs.objs o cs0 h2
   have hb2 : b2 ≠ b' := fun e => hne (hs.locInj o k b2 h3 (e ▸ hl))
   refine ⟨b2,h3,fun i x hx => ?_⟩
   rw [FV.killL_eq,List.getElem?_map] at hx
   cases hy : cs0[i]? with
   | none => rw [hy] at hx; cases hx
   | some y =>
     rw [hy] at hx
     obtain rfl := Option.some.inj hx
     obtain ⟨c,h5,h6⟩ := h4 i y hy
     exact ⟨c,by rw [hout b2 i hb2]; exact h5,up _ _ h6⟩
 ·obtain ⟨k1,k2,k3⟩ := hs.locs o b ho
  exact ⟨by rw [hsz]; exact k1,k2,fun i => ⟨(k3 i).1,by rw [hfz]; exact (k3 i).2⟩⟩
 ·simp only at h h'
  split at h'
  ·rename_i htk
   have := Option.some.inj h'
   injection this with q1 q2
   subst q1; subst q2; subst htk
   obtain rfl := hs.locInj o t b' h hl
   refine ⟨rfl,getB_del_self _ _,fun cells hc => ?_⟩
   simp only [Qv.getObj,Nat.beq_refl] at hc
   obtain rfl := Option.some.inj hc
   rw [FV.killL_eq,List.length_map,List.length_append,hxl,hlen]
  ·rename_i hne
   have h1 := hs.locTail o t b r h h'
   have hto := h1.1
   refine TailOK.mono h1 (fun bs q => ⟨bs,(getB_del q).2⟩) fun cells q => ?_
   simp only [Qv.getObj] at q
   split at q
   ·rename_i hbq
    exact absurd (hto.trans (Nat.eq_of_beq_eq_true hbq).symm) hne
   ·obtain ⟨-,cs0,h2,rfl⟩ := getObj_del q
    exact ⟨cs0,h2,by rw [FV.killL_eq,List.length_map]⟩
 ·simp only at h
  split at h
  ·have := Option.some.inj h
   injection this with q1 q2
   injection q2 with q2 q3
   injection q3 with q3 q4
   subst q1; subst q2; subst q3; subst q4
   refine ⟨by rw [hsz]; exact t1,t2,setCells_type _ _ _ _ _ _ tt,fun i hi hi' => ?_⟩
   obtain ⟨⟨c,k4⟩,k5,k6⟩ := t3 i (by omega) hi'
   refine ⟨⟨c,?_⟩,by rw [hfz]; exact k5,k6⟩
   rw [World.cell?_setCells_out b' _ s0 w ⟨b',i,none⟩ (fun _ _ => by simp only; omega)]
   exact k4
  ·rename_i hne
   obtain ⟨k1,k2,kt,k3⟩ := hs.tails t b s e T' h
   have hb2 : b ≠ b' := fun e' => hne (hs.tailInj t k b' _ _ (e' ▸ h) ht)
   refine ⟨by rw [hsz]; exact k1,k2,setCells_type _ _ _ _ _ _ kt,fun i hi hi' => ?_⟩
   obtain ⟨⟨c,k4⟩,k5,k6⟩ := k3 i hi hi'
   exact ⟨⟨c,by rw [hout b i hb2]; exact k4⟩,by rw [hfz]; exact k5,k6⟩
 ·simp only at h h'
  split at h <;> split at h'
  ·rename_i e1 e2; rw [e1,e2]
  ·obtain ⟨rfl,-⟩ := Prod.mk.inj (Option.some.inj h)
   exact (hs.tailInj _ _ _ _ _ ht h').symm ▸ (by assumption)
  ·obtain ⟨rfl,-⟩ := Prod.mk.inj (Option.some.inj h')
   exact (hs.tailInj _ _ _ _ _ h ht).trans (by simp_all)
  ·exact hs.tailInj t t' b r r' h h'
theorem grow_open (hs : SimG E G S a w) (d : Nat) (hdn : d ≠ 999999) {zs : List FV} {cells : List Value} {s cap : Nat} {e : TypeId} (hlen : zs.length = s) (hcl : cells.length = cap)
 (hr : ∀ (i : Nat) (x : FV),zs[i]? = some x → ∃ c,cells[i]? = some c ∧ RepF G w c x) :
 ∃ G',SimG E G' { S.kill d with objs := (d,FV.killL d zs) :: delObj d S.objs } a (w.alloc (.cells cells.toArray e)) ∧ G'.loc d = some w.heap.size ∧ G'.tail d = some (w.heap.size,s,cap,e) := by
 obtain ⟨G2,g1,g2,g3,g4,g5,g6,g7,g8⟩ := newObj_base hs d hdn cells zs e hr
 have hg := g1.addTail' (t := d) (B := w.heap.size) (s := s) (e := cap) (T := e) g4 (by simp) hs.kept.size (cellsOf_type w _ e)
  (fun o q => by
   have : o = d := Classical.byContradiction fun hne => g6 o hne q
   subst this
   refine ⟨rfl,getB_del_self _ _,fun cells hc => ?_⟩
   simp only [Qv.getObj,Nat.beq_refl] at hc
   obtain rfl := Option.some.inj hc
   rw [FV.killL_eq,List.length_map,hlen])
  (fun t' r q => g5 t' r q) (fun o q => g7 o q) (fun i h1 h2 => by
   refine ⟨?_,World.frozen?_alloc_new w _ e i,g8 i⟩
   have hl : i < cells.length := by omega
   exact ⟨cells[i],by rw [World.cell?_alloc_new]; simp [hl]⟩)
 exact ⟨_,hg,g2,by simp⟩
theorem SimG.cutOpen (hs : SimG E G S a w) {k b n N esz e0 : Nat} {T : TypeId} {xs : List FV} (hk : Qv.getObj S.objs k = some xs) (hl : G.loc k = some b) (ht : G.tail k = some (b,N * esz,e0,T)) (hn : n ≤ N * esz) (hle : N * esz ≤ e0) :
 SimG E { G with tail := fun t => if t = k then some (b,n,e0,T) else G.tail t } { S.kill k with objs := (k,FV.killL k (xs.take n)) :: delObj k S.objs } a w := by
 obtain ⟨t1,t2,tt,t3⟩ := hs.tails k b _ e0 T ht
 obtain ⟨-,l2,l3⟩ := hs.locs k b hl
 obtain ⟨-,hnb,hxl0⟩ := hs.locTail k k b _ hl ht
 have hxl : xs.length = N * esz := hxl0 xs hk
 clear hxl0
 obtain ⟨b',hb',hcell⟩ := hs.objs k xs hk
 obtain rfl : b' = b := by rw [hl] at hb'; exact (Option.some.inj hb').symm
 let G' : Ghost := { G with tail := fun t => if t = k then some (b',n,e0,T) else G.tail t }
 have up : ∀ v x,RepF G w v x → RepF G' w v (x.kill k) := fun v x hv => by
  have h1 : RepF { G with tail := fun t => if t = k then none else G.tail t } w v (x.kill k) := hv.kill k rfl (fun _ _ _ h => h) (fun t r hne h => by simp only; rw [if_neg hne]; exact h)
  refine h1.keep (fun _ _ h => h) (fun b2 i c hi hc => hc) (Stands.refl _ _) (fun _ _ h => h) (fun t r h => ?_)
  simp only at h
  split at h
  ·cases h
  ·rename_i hne
   simp only [G',if_neg hne]; exact h
 refine ⟨hs.kept,hs.size,hs.ext'.move (S' := { S.kill k with objs := (k,FV.killL k (xs.take n)) :: delObj k S.objs }) (FV.kill k) rfl rfl rfl up (Others.refl w) (.killG k rfl rfl (.kill k rfl (fun _ _ _ h => h) (fun _ _ h => h) (fun _ _ _ h => h) (fun _ _ h => h) fun _ _ h => h)),?_,hs.immB,hs.immLt,fun i hi => up _ _ (hs.tmps i hi),fun o cs ho => ?_,hs.locs,hs.locInj,fun o t b r h h' => ?_,fun t b s e T' h => ?_,fun t t' b r r' h h' => ?_⟩
 ·refine hs.bld.keep rfl rfl (fun o bs q => ⟨(getB_del q).2,rfl,rfl⟩) (fun o bs q0 q => ?_) (fun _ _ e => e) (Nat.le_refl _) (fun o bs b q q2 e => rfl) (fun o r e => rfl)
   (fun _ _ _ _ e => e) (fun _ _ _ _ e => e) (fun o r t q _ e => ?_)
  ·simp only [Qv.getObj]
   split
   ·rename_i hbq
    obtain rfl := Nat.eq_of_beq_eq_true hbq
    exact absurd rfl (getB_del q0).1
   ·exact getObj_del_none q
  ·simp only at e
   split at e
   ·obtain ⟨rfl,-⟩ := Prod.mk.inj (Option.some.inj e)
    exact ⟨k,_,ht⟩
   ·exact ⟨t,q,e⟩
 ·simp only [Qv.getObj] at ho
  split at ho
  ·rename_i hbq
   obtain rfl := Nat.eq_of_beq_eq_true hbq
   obtain rfl := Option.some.inj ho
   refine ⟨b',hl,fun i x hx => ?_⟩
   rw [FV.killL_eq,List.getElem?_map] at hx
   cases hy : (xs.take n)[i]? with
   | none => rw [hy] at hx; cases hx
   | some y =>
     rw [hy] at hx
     obtain rfl := Option.some.inj hx
     rw [List.getElem?_take] at hy
     split at hy
     ·obtain ⟨c,h2,h3⟩ := hcell i y hy
      exact ⟨c,h2,up _ _ h3⟩
     ·cases hy
  ·rename_i hbq
   obtain ⟨hne,cs0,h2,rfl⟩ := getObj_del ho
   obtain ⟨b2,h3,h4⟩ := hs.objs o cs0 h2
   refine ⟨b2,h3,fun i x hx => ?_⟩
   rw [FV.killL_eq,List.getElem?_map] at hx
   cases hy : cs0[i]? with
   | none => rw [hy] at hx; cases hx
   | some y =>
     rw [hy] at hx
     obtain rfl := Option.some.inj hx
     obtain ⟨c,h5,h6⟩ := h4 i y hy
     exact ⟨c,h5,up _ _ h6⟩
 ·simp only at h h'
  split at h'
  ·rename_i htk
   have := Option.some.inj h'
   injection this with q1 q2
   subst q1; subst q2; subst htk
   obtain rfl := hs.locInj o t b' h hl
   refine ⟨rfl,getB_del_self _ _,fun cells hc => ?_⟩
   simp only [Qv.getObj,Nat.beq_refl] at hc
   obtain rfl := Option.some.inj hc
   rw [FV.killL_eq,List.length_map,List.length_take,hxl]
   show min n (N * esz) = n
   omega
  ·rename_i hne
   have h1 := hs.locTail o t b r h h'
   have hto := h1.1
   refine TailOK.mono h1 (fun bs q => ⟨bs,(getB_del q).2⟩) fun cells q => ?_
   simp only [Qv.getObj] at q
   split at q
   ·rename_i hbq
    exact absurd (hto.trans (Nat.eq_of_beq_eq_true hbq).symm) hne
   ·obtain ⟨-,cs0,h2,rfl⟩ := getObj_del q
    exact ⟨cs0,h2,by rw [FV.killL_eq,List.length_map]⟩
 ·simp only at h
  split at h
  ·have := Option.some.inj h
   injection this with q1 q2
   injection q2 with q2 q3
   injection q3 with q3 q4
   subst q1; subst q2; subst q3; subst q4
   refine ⟨t1,t2,tt,fun i hi hi' => ?_⟩
   by_cases hin : i < N * esz
   ·obtain ⟨c,h2,-⟩ := hcell i _ (List.getElem?_eq_getElem (by omega))
    exact ⟨⟨c,h2⟩,(l3 i).2,(l3 i).1⟩
   ·exact t3 i (by omega) hi'
  ·exact hs.tails t b s e T' h
 ·simp only at h h'
  split at h <;> split at h'
  ·rename_i e1 e2; rw [e1,e2]
  ·obtain ⟨rfl,-⟩ := Prod.mk.inj (Option.some.inj h)
   exact (hs.tailInj _ _ _ _ _ ht h').symm ▸ (by assumption)
  ·obtain ⟨rfl,-⟩ := Prod.mk.inj (Option.some.inj h')
   exact (hs.tailInj _ _ _ _ _ h ht).trans (by simp_all)
  ·exact hs.tailInj t t' b r r' h h'
theorem wp_evCutO (hs : SimG E G S a w) {K : ASt → Prop} {x hi : Operand} {t : TypeId} (ho : o.op = .slice t x none (some hi) none) {k : Nat} {T : TypeId} {esz : Nat} (hx : S.val x = .osl k T esz)
 (h : evCutO E.C t o.dst S k T esz (S.val hi) K) {next : Act → World → Prop} {Q : Exit → Act → World → Prop}
 (hn : ∀ S' a' w',K S' → Sim E S' a' w' → next a' w') : Owp E o a w next Q := by
 have hxv := RepF.val hs x
 have hhv := RepF.val hs hi
 rw [hx] at hxv
 generalize S.val hi = vh at h hhv
 unfold evCutO at h
 split at h
 ·rename_i d _ _ e _ kk n hd ht
  have hut := (E.C.ok ht).slice
  split at h
  ·exact h.elim
  ·rename_i j hj
   have hjs := (E.C.ok hj).sizeOf w
   split at h
   ·rename_i xs hb hxs
    obtain rfl := Nat.eq_of_beq_eq_true hb
    obtain ⟨hkn,hxs⟩ := getO_some hxs
    obtain ⟨m,N,rfl,hN,hm,zs,rfl,hK⟩ := h
    generalize hev : a.eval x = vv at hxv
    cases hxv with
    | osl _ _ _ n' c b p1 p2 p3 p4 =>
    have hxl := (hs.locTail _ _ _ _ p1 p2).2.2 xs hxs
    simp only at hxl
    obtain rfl : N = n' := Nat.eq_of_mul_eq_mul_right p4 (hN.symm.trans hxl)
    have hh : a.eval hi = .int kk m := hhv.int_inv
    have hbd := run_sliceBounds (P := E.C.P) (w := w) true N c none (some (.int kk m)) 0 m (Nat.zero_le _) (by omega) (.inl ⟨rfl,rfl⟩) (.inr ⟨kk,rfl⟩)
    have hrun : (execOp a.eval o).run E.C.P w = .ok (.value (.slice (some ⟨b,0,none⟩) m c)) w := by
     simp [execOp,ho,hev,hh,Instr.sliceAt,run_underlying hut,Instr.slice,hbd,hjs,Addr.add_lit]
    have hcut := hs.cutOpen hxs p1 p2 (n := m * j.size) (Nat.mul_le_mul_right _ hm) (Nat.mul_le_mul_right _ p3)
    refine wp_value hrun (hn _ _ _ hK ⟨{ G with tail := fun t => if t = k then some (b,m * j.size,c * j.size,T) else G.tail t },?_⟩)
    rw [hd]
    exact hcut.put (some d) (v := .slice (some ⟨b,0,none⟩) m c) (x := .osl k T j.size) (.osl k T j.size m c b p1 (by simp only [if_true]) (by omega) p4)
   ·exact h.elim
 ·exact h.elim
theorem wp_evAppO (hs : SimG E G S a w) {d : Nat} {K : ASt → Prop} {x y : Operand} {t u : TypeId} (ho : o.op = .call ⟨.builtin .append,#[x,y],#[t,u]⟩) (hd : o.dst = some d)
 {o2 : Nat} {T2 : TypeId} {e2 : Nat} (hy : S.val y = .osl o2 T2 e2) (h : evAppO E.C t u d S (S.val x) o2 T2 e2 K) {next : Act → World → Prop} {Q : Exit → Act → World → Prop}
 (hn : ∀ S' a' w',K S' → Sim E S' a' w' → next a' w') : Owp E o a w next Q := by
 have hxv := RepF.val hs x
 have hyv := RepF.val hs y
 rw [hy] at hyv
 generalize S.val x = vx at h hxv
 unfold evAppO at h
 split at h
 ·rename_i e _ ui ht hui
  have hut := (E.C.ok ht).slice
  obtain ⟨dd,hud,hsh⟩ := (E.C.ok hui).und'
  split at h
  ·exact h.elim
  ·rename_i hlist
   have hdk : ∀ k,dd ≠ .int k := fun k e => by rw [← hsh,e] at hlist; simp [shapeOf,Shape.listy] at hlist
   split at h
   ·exact h.elim
   ·rename_i j hj
    have hok := E.C.ok hj
    split at h
    ·rename_i he2 hT2 hb0
     obtain rfl := Nat.eq_of_beq_eq_true he2
     obtain rfl := Nat.eq_of_beq_eq_true hT2
     have hb0 := Nat.ne_of_beq_eq_false hb0
     split at h
     ·exact h.elim
     ·rename_i ys hys
      generalize hevy : a.eval y = vy at hyv
      cases hyv with
      | osl _ _ _ m c2 b2 q1 q2 q3 q4 =>
      have hyl := (hs.locTail _ _ _ _ q1 q2).2.2 ys hys
      simp only at hyl
      obtain ⟨news,nl,nr,nf⟩ := open_cells (P := E.C.P) hs hys q1 q2
      have hl : (Builtin.lenOf (.slice (some ⟨b2,0,none⟩) m c2)).run E.C.P w = .ok m w := by simp [Builtin.lenOf]
      have hone : allOne ys = true → ∀ v,v ∈ news → v.oneCell' = true := fun h1 v hv => by
       obtain ⟨i,hi⟩ := List.getElem?_of_mem hv
       have hil : i < ys.length := by rw [hyl,← nl]; exact (List.getElem?_eq_some_iff.1 hi).1
       obtain ⟨v',h2,h3⟩ := nr i _ (List.getElem?_eq_getElem hil)
       rw [hi] at h2
       obtain rfl := Option.some.inj h2
       exact h3.oneV (allOne_iff.1 h1 _ (List.getElem_mem hil))
      split at h
      ·rename_i k T esz
       split at h
       ·rename_i he hT hne
        obtain rfl := Nat.eq_of_beq_eq_true he
        obtain rfl := Nat.eq_of_beq_eq_true hT
        split at h
        ·exact h.elim
        ·rename_i xs hxs
         obtain ⟨hkn,hxs⟩ := getO_some hxs
         obtain ⟨n,m',hn1,hm1,h1,hbd,zs,rfl,hK⟩ := h
         generalize hevx : a.eval x = vv at hxv
         cases hxv with
         | osl _ _ _ n' c b p1 p2 p3 p4 =>
         have hxl := (hs.locTail _ _ _ _ p1 p2).2.2 xs hxs
         simp only at hxl
         obtain rfl : n = n' := Nat.eq_of_mul_eq_mul_right p4 (hn1.symm.trans hxl)
         obtain rfl : m' = m := Nat.eq_of_mul_eq_mul_right p4 (hm1.symm.trans hyl)
         obtain ⟨t1,t2,tt,t3⟩ := hs.tails _ _ _ _ _ p2
         by_cases hc : n + m' ≤ c
         ·have hq : n * j.size + news.length ≤ c * j.size := by
           have := Nat.mul_le_mul_right j.size hc
           rw [Nat.add_mul] at this
           omega
          have hrun := run_app_room (P := E.C.P) (w := w) (ty := o.type) (b := b) (off := 0) hut hud hdk hok hl (nf w fun _ _ => rfl) hc
           (fun q hq' => by rw [Nat.zero_add]; obtain ⟨⟨u,hu⟩,-,-⟩ := t3 (n * j.size + q) (by omega) (by omega); rw [hu]; rfl)
           (fun q hq' => by rw [Nat.zero_add]; exact (t3 (n * j.size + q) (by omega) (by omega)).2.1) (hone h1)
          rw [Nat.zero_add] at hrun
          have hg := hs.fillOpen (news := news) hxs p1 p2 hq nr (by omega)
          have hex : (execOp a.eval o).run E.C.P w = .ok (.value (.slice (some ⟨b,0,none⟩) (n + m') c)) (w.setCells b (n * j.size) news) := by
           simp [execOp,ho,resolve,invoke,builtin,hevx,hevy,hrun]
          refine wp_value hex (hn _ _ _ hK ⟨{ G with tail := fun t => if t = k then some (b,n * j.size + news.length,c * j.size,T) else G.tail t },?_⟩)
          ·rw [hd]
           refine hg.put (some d) (v := .slice (some ⟨b,0,none⟩) (n + m') c) (x := .osl k T j.size) (.osl k T j.size (n + m') c b p1 ?_ hc p4)
           simp only [if_true]
           rw [nl,Nat.add_mul]
         ·obtain ⟨olds,ol,or',of'⟩ := open_cells (P := E.C.P) hs hxs p1 p2
          obtain ⟨rest,z,hz,hrest,hrun⟩ := run_app_grow (P := E.C.P) (w := w) (ty := o.type) (news := news) (olds := olds) hut hud hdk hok hl nf of' hc hbd hb0
          have hcap : n + m' ≤ grownCap w (n + m') c T := grownCap_ge w _ _ _
          generalize hcg : grownCap w (n + m') c T = cap at *
          have hrl : rest.size = (cap - (n + m')) * j.size := by rw [hrest,size_zeroCells,hz]
          have hcl : (olds ++ news ++ rest.toList).length = cap * j.size := by
           simp only [List.length_append,ol,nl,Array.length_toList,hrl,← Nat.add_mul]
           rw [show n + m' + (cap - (n + m')) = cap from by omega]
          obtain ⟨G',g1,g2,g3⟩ := grow_open hs.drew k hkn (zs := xs ++ ys) (cells := olds ++ news ++ rest.toList) (s := (n + m') * j.size) (cap := cap * j.size) (e := T) (by rw [List.length_append,hxl,hyl,Nat.add_mul]) hcl
           (fun i z hz => by
            have hk : ∀ {v : Value} {z : FV},RepF G w v z → RepF G { w with drawn := w.drawn + 1 } v z := fun h => h.keep (fun _ _ h => h) (fun _ _ _ _ h => h) (fun _ _ _ _ h => h) (fun _ _ h => h) (fun _ _ h => h)
            by_cases hi : i < xs.length
            ·rw [List.getElem?_append_left hi] at hz
             obtain ⟨u,h2,h3⟩ := or' i z hz
             exact ⟨u,by rw [List.append_assoc,List.getElem?_append_left (by omega)]; exact h2,hk h3⟩
            ·rw [List.getElem?_append_right (by omega)] at hz
             obtain ⟨u,h2,h3⟩ := nr _ z hz
             have hul := (List.getElem?_eq_some_iff.1 h2).1
             refine ⟨u,?_,hk h3⟩
             rw [List.getElem?_append_left (by rw [List.length_append]; omega),List.getElem?_append_right (by omega),← h2]
             congr 1
             omega)
          have hW : w.drew.alloc (.cells (olds.toArray ++ news.toArray ++ rest) T) = ({ w with drawn := w.drawn + 1 } : World).alloc (.cells (olds ++ news ++ rest.toList).toArray T) := by
           have : olds.toArray ++ news.toArray ++ rest = (olds ++ news ++ rest.toList).toArray := by apply Array.toList_inj.1; simp
           rw [this]
           rfl
          rw [hW] at hrun
          refine wp_value (v := .slice (some ⟨w.heap.size,0,none⟩) (n + m') cap) (w' := ({ w with drawn := w.drawn + 1 } : World).alloc (.cells (olds ++ news ++ rest.toList).toArray T)) ?_ (hn _ _ _ hK ⟨G',?_⟩)
          ·simp [execOp,ho,resolve,invoke,builtin,hevx,hevy] at hrun ⊢
           rw [hrun]
           rfl
          ·rw [hd]
           exact g1.put (some d) (v := .slice (some ⟨w.heap.size,0,none⟩) (n + m') cap) (x := .osl k T j.size) (.osl k T j.size (n + m') cap w.heap.size g2 g3 hcap p4)
       ·exact h.elim
      ·obtain ⟨m',hm0,hm1,h1,hbd,h⟩ := h
       rw [withNmL_eq] at h
       obtain ⟨hdn,zs,rfl,hK⟩ := h
       have hdn := Nat.ne_of_beq_eq_false hdn
       generalize hevx : a.eval x = vv at hxv
       cases hxv with
       | full _ ad hr0 =>
       obtain rfl : m' = m := Nat.eq_of_mul_eq_mul_right q4 (hm1.symm.trans hyl)
       have of' : ∀ w',(∀ b o,w'.cell? ⟨b,o,none⟩ = w.cell? ⟨b,o,none⟩) → (Builtin.firstCells j.size 0 (.slice ad 0 0)).run E.C.P w' = .ok ([] : List Value).toArray w' := fun w' _ => by
        cases ad <;> simp [Builtin.firstCells,loadCells,loadCellsFrom]
       obtain ⟨rest,z,hz,hrest,hrun⟩ := run_app_grow (P := E.C.P) (w := w) (ty := o.type) (base := ad) (n := 0) (c := 0) (news := news) (olds := []) hut hud hdk hok hl nf of' (by omega) (by rw [Nat.zero_add]; exact hbd) hb0
       have hcap : 0 + m' ≤ grownCap w (0 + m') 0 T2 := grownCap_ge w _ _ _
       generalize hcg : grownCap w (0 + m') 0 T2 = cap at *
       have hrl : rest.size = (cap - (0 + m')) * j.size := by rw [hrest,size_zeroCells,hz]
       have hcl : (news ++ rest.toList).length = cap * j.size := by
        simp only [List.length_append,nl,Array.length_toList,hrl,← Nat.add_mul]
        rw [show m' + (cap - (0 + m')) = cap from by omega]
       generalize hnm : S.off + d = nm at hK hdn
       obtain ⟨G',g1,g2,g3⟩ := grow_open hs.drew nm hdn (zs := ys) (cells := news ++ rest.toList) (s := m' * j.size) (cap := cap * j.size) (e := T2) hyl hcl
        (fun i z hz => by
         have hk : ∀ {v : Value} {z : FV},RepF G w v z → RepF G { w with drawn := w.drawn + 1 } v z := fun h => h.keep (fun _ _ h => h) (fun _ _ _ _ h => h) (fun _ _ _ _ h => h) (fun _ _ h => h) (fun _ _ h => h)
         obtain ⟨u,h2,h3⟩ := nr i z hz
         have hul := (List.getElem?_eq_some_iff.1 h2).1
         exact ⟨u,by rw [List.getElem?_append_left hul]; exact h2,hk h3⟩)
       have hW : w.drew.alloc (.cells (([] : List Value).toArray ++ news.toArray ++ rest) T2) = ({ w with drawn := w.drawn + 1 } : World).alloc (.cells (news ++ rest.toList).toArray T2) := by
        have : ([] : List Value).toArray ++ news.toArray ++ rest = (news ++ rest.toList).toArray := by apply Array.toList_inj.1; simp
        rw [this]
        rfl
       rw [hW] at hrun
       refine wp_value (v := .slice (some ⟨w.heap.size,0,none⟩) (0 + m') cap) (w' := ({ w with drawn := w.drawn + 1 } : World).alloc (.cells (news ++ rest.toList).toArray T2)) ?_ (hn _ _ _ hK ⟨G',?_⟩)
       ·simp [execOp,ho,resolve,invoke,builtin,hevx,hevy] at hrun ⊢
        rw [hrun]
        rfl
       ·rw [hd]
        exact g1.put (some d) (v := .slice (some ⟨w.heap.size,0,none⟩) (0 + m') cap) (x := .osl nm T2 j.size) (.osl nm T2 j.size (0 + m') cap w.heap.size g2 (by rw [Nat.zero_add]; exact g3) hcap q4)
      ·exact h.elim
    ·exact h.elim
 ·exact h.elim
theorem getObj_frO {d Z o : Nat} {yss : List (List AV)} {cells : List FV} : ∀ {l : List (Nat × List FV)},Qv.getObj (frOObjs d Z yss l) o = some cells → o ≠ d ∧ ∃ cs,Qv.getObj l o = some cs ∧ cells = FV.frOL d Z yss cs := by
 intro l
 induction l with
 | nil => intro h; cases h
 | cons p l ih =>
   obtain ⟨u,i⟩ := p
   intro h
   simp only [frOObjs] at h
   split at h
   ·rename_i hb
    obtain rfl := Nat.eq_of_beq_eq_true hb
    obtain ⟨h1,cs,h2,h3⟩ := ih h
    refine ⟨h1,cs,?_,h3⟩
    simp only [Qv.getObj]
    have : Nat.beq u o = false := by
     cases hb : Nat.beq u o
     ·rfl
     ·exact absurd (Nat.eq_of_beq_eq_true hb).symm h1
    rw [this]; exact h2
   ·rename_i hb
    simp only [Qv.getObj] at h ⊢
    split at h
    ·rename_i hb2
     obtain rfl := Nat.eq_of_beq_eq_true hb2
     obtain rfl := Option.some.inj h
     exact ⟨Nat.ne_of_beq_eq_false hb,i,rfl,rfl⟩
    ·rename_i hb2
     exact ih h
theorem flatten_get {α : Type} {e : Nat} : ∀ {l : List (List α)},(∀ zs,zs ∈ l → zs.length = e) → ∀ {i j : Nat} {zs : List α} {z : α},l[i]? = some zs → zs[j]? = some z → l.flatten[i * e + j]? = some z
 | [],_,i,j,zs,z,h,_ => by simp at h
 | x :: l,hl,0,j,zs,z,h1,h2 => by
   simp at h1
   subst h1
   have hj := (List.getElem?_eq_some_iff.1 h2).1
   rw [List.flatten_cons,Nat.zero_mul,Nat.zero_add,List.getElem?_append_left hj]
   exact h2
 | x :: l,hl,i + 1,j,zs,z,h1,h2 => by
   have hx := hl x (by simp)
   rw [List.flatten_cons,List.getElem?_append_right (by rw [hx,Nat.add_mul]; omega),hx,show (i + 1) * e + j - e = i * e + j by rw [Nat.add_mul]; omega]
   exact flatten_get (fun zs hz => hl zs (by simp [hz])) (by simpa using h1) h2
theorem RepF.frO {G G' : Ghost} {w : World} {v : Value} {x : FV} {d Z : Nat} {yss : List (List AV)} (h : RepF G w v x) (hi : ∀ b o,G.imm b o → G'.imm b o)
 (hl : ∀ o b,o ≠ d → G.loc o = some b → G'.loc o = some b) (ht : ∀ t r,G.tail t = some r → G'.tail t = some r)
 (hO : ∀ (T : TypeId) (esz n c b : Nat),G.loc d = some b → G.tail d = some (b,n * esz,c * esz,T) → n ≤ c → 0 < esz → esz = Z → RepF G' w (.slice (some ⟨b,0,none⟩) n c) (.tip d T esz yss))
 (hy : ∀ l k,G.yl l = some k → G'.yl l = some k := by intro _ _ h; exact h) (hmp : ∀ o b,o ≠ d → G.mp o = some b → G'.mp o = some b := by intro _ _ _ h; exact h)
 (hit : ∀ o b,o ≠ d → G.it o = some b → G'.it o = some b := by intro _ _ _ h; exact h) : RepF G' w v (x.frO d Z yss) := by
 have get : ∀ {cs : List Value} {xs : List FV},(∀ (i : Nat) (c : Value) (x : FV),cs[i]? = some c → xs[i]? = some x → RepF G' w c (x.frO d Z yss)) →
  ∀ (i : Nat) (c : Value) (x : FV),cs[i]? = some c → (FV.frOL d Z yss xs)[i]? = some x → RepF G' w c x := fun {cs xs} ih i c x h1 h2 => by
  rw [FV.frOL_eq,List.getElem?_map] at h2
  cases hx : xs[i]? with
  | none => simp [hx] at h2
  | some y => simp [hx] at h2; subst h2; exact ih i c y h1 hx
 induction h with
 | p v x h => exact .p v x (h.keep hi (fun _ _ _ _ h => h) (.refl _ _))
 | agg cs xs hn _ ih => exact .agg cs _ (by simpa [FV.frOL_eq] using hn) (get ih)
 | tup cs xs hn _ ih => exact .tup cs _ (by simpa [FV.frOL_eq] using hn) (get ih)
 | ptr o off b h =>
   simp only [FV.frO]
   split
   ·exact .junk _
   ·rename_i hb
    exact .ptr o off b (hl o b (Nat.ne_of_beq_eq_false hb) h)
 | tip t T esz xs a c h1 h2 =>
   simp only [FV.frO]
   split
   ·exact .p _ _ (h1.keep hi (fun _ _ _ _ h => h) (.refl _ _))
   ·refine .tip t T esz xs a c (h1.keep hi (fun _ _ _ _ h => h) (.refl _ _)) ?_
    rcases h2 with h2 | ⟨b,off,e1,e2,e3⟩
    ·exact .inl h2
    ·exact .inr ⟨b,off,e1,e2,ht _ _ e3⟩
 | full xs a h => exact .full xs a (h.keep hi (fun _ _ _ _ h => h) (.refl _ _))
 | fn f fs cs first captured hn hn' _ _ ih ih' => exact .fn f fs cs _ _ (by simpa [FV.frOL_eq] using hn) (by simpa [FV.frOL_eq] using hn') (get ih) (get ih')
 | yld l k h =>
   simp only [FV.frO]
   split
   ·exact .junk _
   ·exact .yld l k (hy _ _ h)
 | osl o T esz n c b h1 h2 h3 h4 =>
   simp only [FV.frO]
   split
   ·rename_i hb
    obtain rfl := Nat.eq_of_beq_eq_true hb
    split
    ·rename_i he
     exact hO T esz n c b h1 h2 h3 h4 (Nat.eq_of_beq_eq_true he)
    ·exact .junk _
   ·rename_i hb
    exact .osl o T esz n c b (hl o b (Nat.ne_of_beq_eq_false hb) h1) (ht o _ h2) h3 h4
 | eptr o base off b h =>
   simp only [FV.frO]
   split
   ·exact .junk _
   ·rename_i hb
    exact .eptr o base off b (hl o b (Nat.ne_of_beq_eq_false hb) h)
 | mapr o b h =>
   simp only [FV.frO]
   split
   ·exact .junk _
   ·rename_i hb
    exact .mapr o b (hmp o b (Nat.ne_of_beq_eq_false hb) h)
 | itr o b h =>
   simp only [FV.frO]
   split
   ·exact .junk _
   ·rename_i hb
    exact .itr o b (hit o b (Nat.ne_of_beq_eq_false hb) h)
 | junk v => exact .junk v
theorem Moves.frzO {G G' : Ghost} {S : ASt} {w : World} {d Z : Nat} {yss : List (List AV)} (hi : ∀ b i es k,w.heap[b]? = some (.map es k) → (∃ o,G'.mp o = some b) → G'.imm b i → G.imm b i) (hi' : ∀ b,G.imm b 0 → G'.imm b 0) (hmp : G'.mp = G.mp) (hit : G'.it = G.it) (hl : ∀ o b,G'.loc o = some b → G.loc o = some b) :
 Moves (FV.frO d Z yss) G G' S (S.frzO d Z yss) w := by
 refine ⟨fun _ => rfl,fun o l' h => ?_,fun q x h => ?_,fun _ _ h => hmp ▸ h,fun _ _ h => hit ▸ h,hi,hi',fun o b h => .inl (hl o b h)⟩
 ·obtain ⟨l,h1,h2⟩ := getM_mapMs h
  obtain ⟨h3,h4⟩ := getM_del h1
  exact ⟨l,h4,h2,fun b hb => hmp ▸ hb⟩
 ·obtain ⟨h1,h2⟩ := getM_del h
  exact ⟨h2,fun r hr => hit ▸ hr⟩
theorem SimG.frzO (hs : SimG E G S a w) {d Z : Nat} {yss : List (List AV)} (hf : FrzO S d Z yss) : ∃ G',SimG E G' (S.frzO d Z yss) a w := by
 obtain ⟨⟨cells,hc0,hy⟩,heach⟩ := hf
 obtain ⟨hdn,hc⟩ := getO_some hc0
 clear hc0
 generalize hys : yss.flatten = ys at hy
 obtain ⟨B,hB,hcell⟩ := hs.objs d cells hc
 obtain ⟨hl1,hl2,hl3⟩ := hs.locs d B hB
 obtain ⟨hlen,hget⟩ := FV.toAVs_get hy
 let G' : Ghost := { G with imm := fun b o => G.imm b o ∨ (b = B ∧ o < ys.length),loc := fun o => if o = d then none else G.loc o }
 have hone : ∀ y,y ∈ ys → y.one = true := fun y hy => by
  rw [← hys] at hy
  obtain ⟨zs,h1,h2⟩ := List.mem_flatten.1 hy
  exact (heach zs h1).2 y h2
 have floc : ∀ o b,G'.loc o = some b → o ≠ d ∧ G.loc o = some b := fun o b h => by
  simp only [G'] at h
  split at h
  ·cases h
  ·rename_i hne; exact ⟨hne,h⟩
 have hrep : ∀ (j : Nat) (y : AV),ys[j]? = some y → ∃ c,w.cell? ⟨B,j,none⟩ = some c ∧ Rep G'.imm w c y := fun j y hj => by
  obtain ⟨x,hx,hxy⟩ := hget j y hj
  obtain ⟨c,h2,h3⟩ := hcell j x hx
  exact ⟨c,h2,(h3.toAV hxy).keep (fun b o h => .inl h) (fun _ _ _ _ h => h) (.refl _ _)⟩
 have hmapB : ∀ b i es n,b = B → i < ys.length → w.heap[b]? = some (.map es n) → False := fun b i es n e hi hb => by
  subst e
  obtain ⟨c,h2,-⟩ := hrep i _ (List.getElem?_eq_getElem hi)
  rw [cell_not_map hb] at h2
  cases h2
 have up : ∀ v x,RepF G w v x → RepF G' w v (x.frO d Z yss) := fun v x hv => by
  refine hv.frO (fun b o h => .inl h) (fun o b hne h => by simp only [G']; rw [if_neg hne]; exact h) (fun _ _ h => h) (fun T esz n c b h1 h2 h3 h4 h5 => ?_)
  obtain rfl : b = B := by rw [hB] at h1; exact (Option.some.inj h1).symm
  subst h5
  have h6 := (hs.locTail d d b _ h1 h2).2.2 cells hc
  simp only at h6
  have h7 : yss.flatten.length = yss.length * esz := by
   have : ∀ l : List (List AV),(∀ zs,zs ∈ l → zs.length = esz) → l.flatten.length = l.length * esz := by
    intro l
    induction l with
    | nil => intro _; simp
    | cons z l ih =>
      intro hl
      have e1 := hl z (by simp)
      have e2 := ih fun x hx => hl x (by simp [hx])
      simp only [List.flatten_cons,List.length_append,List.length_cons,e1,e2,Nat.add_mul,Nat.one_mul]
      omega
   exact this yss fun zs hz => (heach zs hz).1
  have h8 : yss.length = n := Nat.eq_of_mul_eq_mul_right h4 (by rw [← h7,hys,hlen,h6])
  subst h8
  refine .tip d T esz yss (some ⟨b,0,none⟩) c (rep_flat h3 (fun zs hz => (heach zs hz).1) fun i zs j z hi hj => ?_) (.inr ⟨b,0,rfl,fun zs hz => (heach zs hz).1,by rw [Nat.zero_add,Nat.zero_add]; exact h2⟩)
  rw [Nat.zero_add]
  have h9 : ys[i * esz + j]? = some z := by
   rw [← hys]
   exact flatten_get (fun zs hz => (heach zs hz).1) hi hj
  obtain ⟨c',k1,k2⟩ := hrep _ _ h9
  exact ⟨c',hone z (List.mem_of_getElem? h9),k1,.inr ⟨rfl,(List.getElem?_eq_some_iff.1 h9).1⟩,k2⟩
 refine ⟨G',hs.kept,hs.size,hs.ext'.move (S' := S.frzO d Z yss) (FV.frO d Z yss) rfl rfl rfl up (.refl _) (.frzO (fun b i es n hb _ h => h.elim id fun h => (hmapB b i es n h.1 h.2 hb).elim) (fun _ h => .inl h) rfl rfl (fun o b h => (floc o b h).2)),?_,?_,?_,fun i hi => up _ _ (hs.tmps i hi),fun o cs ho => ?_,fun o b ho => ?_,fun o o' b h h' => hs.locInj o o' b (floc _ _ h).2 (floc _ _ h').2,fun o t b r h h' => TailOK.mono (hs.locTail o t b r (floc _ _ h).2 h') (fun bs q => ⟨bs,(getB_del q).2⟩) (fun cs q => ?_),fun t b s e T h => ?_,hs.tailInj⟩
 ·refine hs.bld.keep rfl rfl (fun o bs q => ?_) (fun o _ _ q => ?_) (fun _ _ e => e) (Nat.le_refl _) (fun _ _ _ _ _ _ => rfl) (fun _ _ _ => rfl) (fun o r i e hi => ?_) (fun _ _ o' _ e => (floc o' _ e).2) (fun _ _ t q _ e => ⟨t,q,e⟩)
  ·refine ⟨(getB_del q).2,?_,rfl⟩
   have q := (getB_del q).2
   have hne : o ≠ d := fun e => by
    have := (hs.bld.at_ o bs q).1
    rw [e,hc] at this
    cases this
   simp only [G']
   rw [if_neg hne]
  ·cases h' : Qv.getObj (frOObjs d Z yss S.objs) o with
   | none => exact h'
   | some cs =>
     obtain ⟨-,cs',h2,-⟩ := getObj_frO h'
     rw [q] at h2
     cases h2
  ·rcases hi with hi | ⟨rfl,-⟩
   ·exact hi
   ·exact absurd hB ((hs.bld.row o _ e).2.2.2.1 d)
 ·rintro b o (h | ⟨rfl,-⟩)
  ·exact hs.immB b o h
  ·exact .inr (E.mine_new hl2 hdn)
 ·rintro b o (h | ⟨rfl,-⟩)
  ·exact hs.immLt b o h
  ·exact hl1
 ·obtain ⟨hne,cs0,h2,rfl⟩ := getObj_frO ho
  obtain ⟨b,h3,h4⟩ := hs.objs o cs0 h2
  refine ⟨b,by simp only [G']; rw [if_neg hne]; exact h3,fun i x hx => ?_⟩
  rw [FV.frOL_eq,List.getElem?_map] at hx
  cases hq : cs0[i]? with
  | none => simp [hq] at hx
  | some y =>
    simp [hq] at hx
    subst hx
    obtain ⟨c,h5,h6⟩ := h4 i y hq
    exact ⟨c,h5,up _ _ h6⟩
 ·obtain ⟨hne,ho'⟩ := floc o b ho
  obtain ⟨k1,k2,k3⟩ := hs.locs o b ho'
  refine ⟨k1,k2,fun i => ⟨?_,(k3 i).2⟩⟩
  rintro (h | ⟨e,-⟩)
  ·exact (k3 i).1 h
  ·exact hne (hs.locInj o d b ho' (by rw [e]; exact hB))
 ·obtain ⟨-,cs0,h2,rfl⟩ := getObj_frO q
  exact ⟨cs0,h2,by rw [FV.frOL_eq,List.length_map]⟩
 ·obtain ⟨k1,k2,kt,k3⟩ := hs.tails t b s e T h
  refine ⟨k1,k2,kt,fun i hi hi' => ?_⟩
  obtain ⟨k4,k5,k6⟩ := k3 i hi hi'
  refine ⟨k4,k5,?_⟩
  rintro (h7 | ⟨rfl,hlt⟩)
  ·exact k6 h7
  ·have := (hs.locTail d t b _ hB h).2.2 cells hc
   simp only at this
   omega
theorem hb_ne {i d : Nat} (h : i ≠ d) : Nat.beq i d = false := by
 cases hb : Nat.beq i d
 ·rfl
 ·exact absurd (Nat.eq_of_beq_eq_true hb) h
theorem getObj_rn {d e o : Nat} {cells : List FV} : ∀ {l : List (Nat × List FV)},Qv.getObj (rnObjs d e l) o = some cells →
 (o = e ∧ ∃ cs,cells = cs.map (FV.rn d e) ∧ (Qv.getObj l d = some cs ∨ Qv.getObj l e = some cs)) ∨ (o ≠ e ∧ o ≠ d ∧ ∃ cs,cells = cs.map (FV.rn d e) ∧ Qv.getObj l o = some cs) := by
 intro l
 induction l with
 | nil => intro h; cases h
 | cons p l ih =>
   obtain ⟨u,i⟩ := p
   intro h
   simp only [rnObjs] at h
   split at h
   ·rename_i hu
    obtain rfl := Nat.eq_of_beq_eq_true hu
    simp only [Qv.getObj] at h
    split at h
    ·rename_i he
     obtain rfl := Nat.eq_of_beq_eq_true he
     exact .inl ⟨rfl,i,by rw [← FV.rnL_eq]; exact (Option.some.inj h).symm,.inl (by simp [Qv.getObj])⟩
    ·rename_i he
     have he := Nat.ne_of_beq_eq_false he
     rcases ih h with ⟨h1,-⟩ | ⟨h1,h2,cs,h3,h4⟩
     ·exact absurd h1.symm he
     ·refine .inr ⟨h1,h2,cs,h3,?_⟩
      simp only [Qv.getObj]
      rw [hb_ne (Ne.symm h2)]
      exact h4
   ·rename_i hu
    have hu := Nat.ne_of_beq_eq_false hu
    simp only [Qv.getObj] at h
    split at h
    ·rename_i ho
     obtain rfl := Nat.eq_of_beq_eq_true ho
     by_cases hue : u = e
     ·exact .inl ⟨hue,i,by rw [← FV.rnL_eq]; exact (Option.some.inj h).symm,.inr (by subst hue; simp [Qv.getObj])⟩
     ·exact .inr ⟨hue,hu,i,by rw [← FV.rnL_eq]; exact (Option.some.inj h).symm,by simp [Qv.getObj]⟩
    ·rename_i ho
     have ho := Nat.ne_of_beq_eq_false ho
     rcases ih h with ⟨h1,cs,h3,h4⟩ | ⟨h1,h2,cs,h3,h4⟩
     ·refine .inl ⟨h1,cs,h3,h4.imp (fun h4 => ?_) fun h4 => ?_⟩
      ·simp only [Qv.getObj]
       rw [hb_ne hu]
       exact h4
      ·simp only [Qv.getObj]
       rw [hb_ne (h1 ▸ ho)]
       exact h4
     ·refine .inr ⟨h1,h2,cs,h3,?_⟩
      simp only [Qv.getObj]
      rw [hb_ne ho]
      exact h4
theorem SimG.rn (hs : SimG E G S a w) {d e : Nat} (hd : d ≠ 999999) (he : e ≠ 999999) : ∃ G',SimG E G' (S.rn d e) a w := by
 have h1 := hs.kill e
 have hl0 : (G.free e).loc e = none := by simp [Ghost.free]
 have ht0 : (G.free e).tail e = none := by simp [Ghost.free]
 have ho0 : Qv.getObj (S.kill e).objs e = none := by
  cases h' : Qv.getObj (S.kill e).objs e with
  | none => rfl
  | some cs => exact absurd rfl (getObj_del (l := S.objs) h').1
 have hb0 : getB (S.kill e).blds e = none := getB_del_self _ _
 unfold ASt.rn
 clear hs
 generalize S.kill e = S1 at h1 ho0 hb0 ⊢
 generalize G.free e = G1 at h1 hl0 ht0
 let G' : Ghost := { G1 with loc := fun o => if o = e then G1.loc d else if o = d then none else G1.loc o,tail := fun o => if o = e then G1.tail d else if o = d then none else G1.tail o }
 have floc : ∀ o b,G'.loc o = some b → (o = e ∧ G1.loc d = some b) ∨ (o ≠ e ∧ o ≠ d ∧ G1.loc o = some b) := fun o b h => by
  simp only [G'] at h
  split at h
  ·rename_i h2; exact .inl ⟨h2,h⟩
  ·split at h
   ·cases h
   ·rename_i h2 h3; exact .inr ⟨h2,h3,h⟩
 have ftail : ∀ o b,G'.tail o = some b → (o = e ∧ G1.tail d = some b) ∨ (o ≠ e ∧ o ≠ d ∧ G1.tail o = some b) := fun o b h => by
  simp only [G'] at h
  split at h
  ·rename_i h2; exact .inl ⟨h2,h⟩
  ·split at h
   ·cases h
   ·rename_i h2 h3; exact .inr ⟨h2,h3,h⟩
 have tl : ∀ o b,o ≠ d → G1.loc o = some b → G'.loc o = some b := fun o b h2 h3 => by
  simp only [G']
  rw [if_neg (fun h4 => by rw [h4,hl0] at h3; cases h3),if_neg h2]
  exact h3
 have tt : ∀ o b,o ≠ d → G1.tail o = some b → G'.tail o = some b := fun o b h2 h3 => by
  simp only [G']
  rw [if_neg (fun h4 => by rw [h4,ht0] at h3; cases h3),if_neg h2]
  exact h3
 have el : G'.loc e = G1.loc d := by simp [G']
 have et : G'.tail e = G1.tail d := by simp [G']
 have up : ∀ v x,RepF G1 w v x → RepF G' w v (x.rn d e) := fun v x hv => by
  have get : ∀ {cs : List Value} {xs : List FV},(∀ (i : Nat) (c : Value) (x : FV),cs[i]? = some c → xs[i]? = some x → RepF G' w c (x.rn d e)) → ∀ (i : Nat) (c : Value) (x : FV),cs[i]? = some c → (FV.rnL d e xs)[i]? = some x → RepF G' w c x := fun {cs xs} ih i c x h1 h2 => by
   rw [FV.rnL_eq,List.getElem?_map] at h2
   cases hx : xs[i]? with
   | none => simp [hx] at h2
   | some y => simp [hx] at h2; subst h2; exact ih i c y h1 hx
  induction hv with
  | p v x h => exact .p v x h
  | agg cs xs hn _ ih => exact .agg cs _ (by simpa [FV.rnL_eq] using hn) (get ih)
  | tup cs xs hn _ ih => exact .tup cs _ (by simpa [FV.rnL_eq] using hn) (get ih)
  | ptr o off b h =>
    simp only [FV.rn]
    split
    ·rename_i hb
     obtain rfl := Nat.eq_of_beq_eq_true hb
     exact .ptr e off b (el.trans h)
    ·rename_i hb
     exact .ptr o off b (tl o b (Nat.ne_of_beq_eq_false hb) h)
  | tip t T esz xs a c h1 h2 =>
    simp only [FV.rn]
    split
    ·rename_i hb
     obtain rfl := Nat.eq_of_beq_eq_true hb
     exact .tip e T esz xs a c h1 (h2.imp id fun ⟨b,off,e1,e2,e3⟩ => ⟨b,off,e1,e2,et.trans e3⟩)
    ·rename_i hb
     exact .tip t T esz xs a c h1 (h2.imp id fun ⟨b,off,e1,e2,e3⟩ => ⟨b,off,e1,e2,tt _ _ (Nat.ne_of_beq_eq_false hb) e3⟩)
  | full xs a h => exact .full xs a h
  | fn f fs cs first captured hn hn' _ _ ih ih' => exact .fn f fs cs _ _ (by simpa [FV.rnL_eq] using hn) (by simpa [FV.rnL_eq] using hn') (get ih) (get ih')
  | yld l k h => exact .yld l k h
  | osl o T esz n c b h1 h2 h3 h4 =>
    simp only [FV.rn]
    split
    ·rename_i hb
     obtain rfl := Nat.eq_of_beq_eq_true hb
     exact .osl e T esz n c b (el.trans h1) (et.trans h2) h3 h4
    ·rename_i hb
     exact .osl o T esz n c b (tl o b (Nat.ne_of_beq_eq_false hb) h1) (tt o _ (Nat.ne_of_beq_eq_false hb) h2) h3 h4
  | eptr o base off b h =>
    simp only [FV.rn]
    split
    ·rename_i hb
     obtain rfl := Nat.eq_of_beq_eq_true hb
     exact .eptr e base off b (el.trans h)
    ·rename_i hb
     exact .eptr o base off b (tl o b (Nat.ne_of_beq_eq_false hb) h)
  | mapr o b h => exact .mapr o b h
  | itr o b h => exact .itr o b h
  | junk v => exact .junk v
 have locIn : ∀ o b,G'.loc o = some b → ∃ o',G1.loc o' = some b := fun o b h => (floc o b h).elim (fun h => ⟨d,h.2⟩) fun h => ⟨o,h.2.2⟩
 have tailIn : ∀ o b,G'.tail o = some b → ∃ o',G1.tail o' = some b := fun o b h => (ftail o b h).elim (fun h => ⟨d,h.2⟩) fun h => ⟨o,h.2.2⟩
 have hmv : Moves (FV.rn d e) G1 { G' with loc := G1.loc } S1 (S1.rn0 d e) w := by
  refine ⟨fun _ => rfl,fun o l' h => ?_,fun q x h => ⟨h,fun r hr => hr⟩,fun _ _ h => h,fun _ _ h => h,fun _ _ _ _ _ _ h => h,fun _ h => h,fun o b h => .inl h⟩
  obtain ⟨l,h1,h2⟩ := getM_mapMs h
  exact ⟨l,h1,h2,fun b hb => hb⟩
 have hmps : Mps E G' (S1.rn0 d e) w := by
  refine ⟨fun o l' hl => ?_,h1.ext'.mps.loc,h1.ext'.mps.inj,h1.ext'.mps.its,h1.ext'.mps.itLoc,h1.ext'.mps.itInj,fun o o' b h2 h3 => ?_⟩
  ·obtain ⟨l,q1,rfl⟩ := getM_mapMs hl
   obtain ⟨b,clk,es,q2,q3,q4,q5,q6⟩ := h1.ext'.mps.at_ o l q1
   refine ⟨b,clk,es,q2,q3,q4,by rw [mapV_eq,List.length_map]; exact q5,fun i en p hen hp => ?_⟩
   rw [mapV_eq,List.getElem?_map] at hp
   cases hq : l[i]? with
   | none => simp [hq] at hp
   | some q =>
     simp only [hq,Option.map_some,Option.some.injEq] at hp
     subst hp
     obtain ⟨q7,q8⟩ := q6 i en q hen hq
     exact ⟨q7,up _ _ q8⟩
  ·obtain ⟨o2,h4⟩ := locIn o' b h3
   exact h1.ext'.mps.apart o o2 b h2 h4
 refine ⟨G',h1.kept,h1.size,⟨hmps,?_,fun i vals fr q1 q2 => ?_,h1.ext'.pendLen,h1.ext'.loops,h1.ext'.loopInj,h1.ext'.yl,h1.ext'.rnd,h1.ext'.marks,h1.ext'.glob⟩,?_,h1.immB,h1.immLt,fun i hi => up _ _ (h1.tmps i hi),fun o cells ho => ?_,fun o b ho => ?_,fun o o' b q1 q2 => ?_,fun o t b r q1 q2 => ?_,fun t b s z T q => ?_,fun t t' b r r' q1 q2 => ?_⟩
 ·simp only [ASt.rn0,frMap_eq,List.length_map]
  exact h1.ext'.suspLen
 ·simp only [ASt.rn0,frMap_eq,List.getElem?_map] at q2
  cases hx : S1.susp[i]? with
  | none => simp [hx] at q2
  | some fr0 =>
    simp [hx] at q2
    subst q2
    obtain ⟨h3,h4⟩ := h1.ext'.susp i vals fr0 q1 hx
    exact ⟨h3,fun j hj => up _ _ (h4 j hj)⟩
 ·refine ⟨fun o bs q => ?_,fun o r q => ?_,h1.bld.rowC⟩
  ·obtain ⟨q1,q2⟩ := getB_del (l := S1.blds) q
   obtain ⟨q3,b,q4,q5⟩ := h1.bld.at_ o bs q2
   refine ⟨?_,b,tl o b q1 q4,q5⟩
   cases h' : Qv.getObj (S1.rn0 d e).objs o with
   | none => rfl
   | some cs =>
     rcases getObj_rn h' with ⟨rfl,-⟩ | ⟨-,-,cs',-,h4⟩
     ·rw [hb0] at q2; cases q2
     ·rw [q3] at h4; cases h4
  ·obtain ⟨q1,q2,q3,q4,q5,q6⟩ := h1.bld.row o r q
   exact ⟨q1,q2,q3,fun o' h => let ⟨o2,h2⟩ := locIn o' r h; q4 o2 h2,fun t z h => let ⟨o2,h2⟩ := tailIn t _ h; q5 o2 z h2,q6⟩
 ·have base : ∀ o2 cs,Qv.getObj S1.objs o2 = some cs → ∃ b,G1.loc o2 = some b ∧ ∀ (i : Nat) (x : FV),(cs.map (FV.rn d e))[i]? = some x → ∃ c,w.cell? ⟨b,i,none⟩ = some c ∧ RepF G' w c x := fun o2 cs h => by
   obtain ⟨b,h2,h3⟩ := h1.objs o2 cs h
   refine ⟨b,h2,fun i x hx => ?_⟩
   rw [List.getElem?_map] at hx
   cases hq : cs[i]? with
   | none => simp [hq] at hx
   | some y =>
     simp [hq] at hx
     subst hx
     obtain ⟨c,h4,h5⟩ := h3 i y hq
     exact ⟨c,h4,up _ _ h5⟩
  rcases getObj_rn ho with ⟨rfl,cs,rfl,h4 | h4⟩ | ⟨h2,h3,cs,rfl,h4⟩
  ·obtain ⟨b,h5,h6⟩ := base d cs h4
   exact ⟨b,el.trans h5,h6⟩
  ·rw [ho0] at h4; cases h4
  ·obtain ⟨b,h5,h6⟩ := base o cs h4
   exact ⟨b,tl o b h3 h5,h6⟩
 ·rcases floc o b ho with ⟨rfl,h2⟩ | ⟨-,-,h2⟩
  ·obtain ⟨h3,h4,h5⟩ := h1.locs d b h2
   exact ⟨h3,.inl ⟨E.mine_new h4 hd,fun h => absurd h he⟩,h5⟩
  ·exact h1.locs o b h2
 ·rcases floc o b q1 with ⟨rfl,h2⟩ | ⟨h2,h3,h4⟩ <;> rcases floc o' b q2 with ⟨h5,h6⟩ | ⟨h5,h6,h7⟩
  ·exact h5.symm
  ·exact absurd (h1.locInj d o' b h2 h7).symm h6
  ·exact absurd (h1.locInj o d b h4 h6) h3
  ·exact h1.locInj o o' b h4 h7
 ·have hobj : ∀ o2 cells,Qv.getObj (S1.rn0 d e).objs o2 = some cells → (o2 = e ∧ ∃ cs,Qv.getObj S1.objs d = some cs ∧ cells.length = cs.length) ∨ (o2 ≠ e ∧ ∃ cs,Qv.getObj S1.objs o2 = some cs ∧ cells.length = cs.length) := fun o2 cells h => by
   rcases getObj_rn h with ⟨h2,cs,rfl,h4 | h4⟩ | ⟨h2,h3,cs,rfl,h4⟩
   ·exact .inl ⟨h2,cs,h4,by simp⟩
   ·rw [ho0] at h4; cases h4
   ·exact .inr ⟨h2,cs,h4,by simp⟩
  rcases floc o b q1 with ⟨rfl,h2⟩ | ⟨h2,h3,h4⟩ <;> rcases ftail t _ q2 with ⟨h5,h6⟩ | ⟨h5,h6,h7⟩
  ·obtain ⟨-,g2,g3⟩ := h1.locTail d d b r h2 h6
   refine ⟨h5,?_,fun cells hc => ?_⟩
   ·cases hq : getB (S1.rn0 d o).blds o with
    | none => rfl
    | some bs => have := (getB_del (l := S1.blds) hq).2; rw [hb0] at this; cases this
   ·rcases hobj o cells hc with ⟨-,cs,g4,g5⟩ | ⟨g4,-⟩
    ·rw [g5]; exact g3 cs g4
    ·exact absurd rfl g4
  ·exact absurd (h1.locTail d t b r h2 h7).1 h6
  ·exact absurd (h1.locTail o d b r h4 h6).1.symm h3
  ·obtain ⟨g1,g2,g3⟩ := h1.locTail o t b r h4 h7
   refine ⟨g1,?_,fun cells hc => ?_⟩
   ·cases hq : getB (S1.rn0 d e).blds o with
    | none => rfl
    | some bs => have := (getB_del (l := S1.blds) hq).2; rw [g2] at this; cases this
   ·rcases hobj o cells hc with ⟨g4,-⟩ | ⟨-,cs,g4,g5⟩
    ·exact absurd g4 h2
    ·rw [g5]; exact g3 cs g4
 ·obtain ⟨o2,h2⟩ := tailIn t _ q
  exact h1.tails o2 b s z T h2
 ·rcases ftail t _ q1 with ⟨rfl,h2⟩ | ⟨h2,h3,h4⟩ <;> rcases ftail t' _ q2 with ⟨h5,h6⟩ | ⟨h5,h6,h7⟩
  ·exact h5.symm
  ·exact absurd (h1.tailInj d t' b r r' h2 h7).symm h6
  ·exact absurd (h1.tailInj t d b r r' h4 h6) h3
  ·exact h1.tailInj t t' b r r' h4 h7
end
end Qv

end
