/- Several texts in one: From the evaluator to contracts of functions; the rule for loops and what follows. No condition. -/
import Derived.Test.YtpoefbbfhebakaaGreatDoorCv3
import Derived.Sort.LoopGhostIn
import Derived.Shelf.Strings.Builder1
import Derived.Laws.AppendOwn
import Derived.OpenShut
import Derived.RowKit
import Derived.ChangeBears
import Derived.Below
import Derived.Carry
import Derived.ChangeOld
import Derived.ChangeSame
import Derived.Lib.LaidTab
set_option linter.unusedVariables false
set_option linter.unusedSimpArgs false

section
namespace Qv
open Go Go.RowKit
section
variable {E : Env} {G : Ghost} {S : ASt} {a : Act} {w : World}
def resVar (tmps : Array Value) : ResultVar → Sem Value
 | .tmp t => pure (tmps.getD t undef)
 | .cell a t => do loadVar t (← asAddr (tmps.getD a undef))
def tupOf : List Value → Value
 | [v] => v
 | vs => .tuple vs.toArray
theorem results_eq (fn : Func) (tmps : Array Value) (P : Program) (w : World) {vs : List Value} (h : (fn.results.toList.mapM (resVar tmps)).run P w = .ok vs w) :
 (results fn tmps).run P w = .ok (tupOf vs) w := by
 have h2 : (fn.results.mapM (resVar tmps)).run P w = .ok vs.toArray w := by
  rw [Array.mapM_eq_mapM_toList]
  simp only [Sem.run_map,h,Result.andThen_ok]
 have h3 : results fn tmps = (do let vs ← fn.results.mapM (resVar tmps); pure (if h : vs.size = 1 then vs[0] else .tuple vs)) := by
  unfold results
  congr 1
 rw [h3]
 simp only [Sem.run_bind,h2,Result.andThen_ok,Sem.run_pure]
 congr 1
 match vs with
 | [] => simp [tupOf]
 | [v] => simp [tupOf]
 | v :: u :: r => simp [tupOf]
theorem resVar_cell (hs : SimG E G S a w) {ad : Nat} {t : TypeId} {K : FV → Prop} (h : evLoad E.C S.objs t (S.get ad) K) :
 ∃ v x,(resVar a.tmps (.cell ad t)).run E.C.P w = .ok v w ∧ K x ∧ RepF G w v x := by
 obtain ⟨p,v,x,h1,h2,h3,h4⟩ := load_core hs (RepF.get hs ad) h
 exact ⟨v,x,by simp only [resVar,Sem.run_bind,h1,asAddr,Sem.run_pure,Result.andThen_ok,h2],h3,h4⟩
theorem evResults_sound (hs : SimG E G S a w) : ∀ (rs : List ResultVar) (K : List AV → Prop),evResults E.C S rs K →
 ∃ vs xs,(rs.mapM (resVar a.tmps)).run E.C.P w = .ok vs w ∧ K xs ∧ vs.length = rs.length ∧ vs.length = xs.length ∧ ∀ (i : Nat) (c : Value) (x : AV),vs[i]? = some c → xs[i]? = some x → Rep G.imm w c x := by
 intro rs
 induction rs with
 | nil => intro K h; exact ⟨[],[],by simp,h,rfl,rfl,by simp⟩
 | cons r rs ih =>
   have fin : ∀ (K : List AV → Prop) {v : Value} {y : AV},(resVar a.tmps r).run E.C.P w = .ok v w → Rep G.imm w v y → evResults E.C S rs (fun xs => K (y :: xs)) →
    ∃ vs xs,((r :: rs).mapM (resVar a.tmps)).run E.C.P w = .ok vs w ∧ K xs ∧ vs.length = (r :: rs).length ∧ vs.length = xs.length ∧ ∀ (i : Nat) (c : Value) (x : AV),vs[i]? = some c → xs[i]? = some x → Rep G.imm w c x := fun K {v y} h1 h2 h3 => by
    obtain ⟨vs,xs,g1,g2,g3,g4,g5⟩ := ih _ h3
    refine ⟨v :: vs,y :: xs,by simp [List.mapM_cons,h1,g1],g2,by simp [g3],by simp [g4],fun i c x hc hx => ?_⟩
    cases i with
    | zero => simp at hc hx; subst hc; subst hx; exact h2
    | succ i => simp at hc hx; exact g5 i c x hc hx
   intro K h
   cases r with
   | tmp t =>
     simp only [evResults] at h
     split at h
     ·rename_i y hy
      exact fin K (v := a.tmps.getD t undef) rfl ((RepF.get hs t).toAV hy) h
     ·exact h.elim
   | cell ad t =>
     simp only [evResults] at h
     obtain ⟨v,x,h1,h2,h3⟩ := resVar_cell hs h
     split at h2
     ·rename_i y hy
      exact fin K h1 (h3.toAV hy) h2
     ·exact h2.elim
theorem rep_out (hs : SimG E G S a w) {v : Value} {x : AV} (h : Rep G.imm w v x) : Rep (immOr E.imm0 E.w0.heap.size) w v x :=
 h.keep (fun b o hi => hs.immB b o hi) (fun _ _ _ _ h => h) (.refl _ _)
theorem evResF_sound (hs : SimG E G S a w) : ∀ (rs : List ResultVar) (K : List FV → Prop),evResF E.C S rs K →
 ∃ vs xs,(rs.mapM (resVar a.tmps)).run E.C.P w = .ok vs w ∧ K xs ∧ vs.length = rs.length ∧ vs.length = xs.length ∧ ∀ (i : Nat) (c : Value) (x : FV),vs[i]? = some c → xs[i]? = some x → RepF G w c x := by
 intro rs
 induction rs with
 | nil => intro K h; exact ⟨[],[],by simp,h,rfl,rfl,by simp⟩
 | cons r rs ih =>
   have fin : ∀ (K : List FV → Prop) {v : Value} {y : FV},(resVar a.tmps r).run E.C.P w = .ok v w → RepF G w v y → evResF E.C S rs (fun xs => K (y :: xs)) →
    ∃ vs xs,((r :: rs).mapM (resVar a.tmps)).run E.C.P w = .ok vs w ∧ K xs ∧ vs.length = (r :: rs).length ∧ vs.length = xs.length ∧ ∀ (i : Nat) (c : Value) (x : FV),vs[i]? = some c → xs[i]? = some x → RepF G w c x := fun K {v y} h1 h2 h3 => by
    obtain ⟨vs,xs,g1,g2,g3,g4,g5⟩ := ih _ h3
    refine ⟨v :: vs,y :: xs,by simp [List.mapM_cons,h1,g1],g2,by simp [g3],by simp [g4],fun i c x hc hx => ?_⟩
    cases i with
    | zero => simp at hc hx; subst hc; subst hx; exact h2
    | succ i => simp at hc hx; exact g5 i c x hc hx
   intro K h
   cases r with
   | tmp t => exact fin K (v := a.tmps.getD t undef) rfl (RepF.get hs t) h
   | cell ad t =>
     simp only [evResF] at h
     obtain ⟨v,x,h1,h2,h3⟩ := resVar_cell hs h
     exact fin K h1 h3 h2
theorem tup_rep {vs : List Value} {xs : List FV} (hl : vs.length = xs.length) (h : ∀ (i : Nat) (c : Value) (x : FV),vs[i]? = some c → xs[i]? = some x → RepF G w c x) : RepF G w (tupOf vs) (tupF xs) := by
 match vs,xs,hl with
 | [v],[x],_ => exact h 0 v x rfl rfl
 | [],[],_ => exact .tup [] [] rfl (by simp)
 | v :: u :: vs,x :: y :: xs,hl => exact .tup (v :: u :: vs) (x :: y :: xs) hl h
 | [],_ :: _,hl => simp at hl
 | [_],[],hl => simp at hl
 | [_],_ :: _ :: _,hl => simp at hl
 | _ :: _ :: _,[],hl => simp at hl
 | _ :: _ :: _,[_],hl => simp at hl
theorem RepF.bare {G : Ghost} {w : World} {v : Value} {x : FV} (h : RepF G w v x) {imm : Nat → Nat → Prop} (hi : ∀ b o,G.imm b o → imm b o) : x.safe [] = true → RepF (bare imm) w v x := by
 have key : ∀ {xs : List FV},FV.safeL [] xs = true → ∀ x,x ∈ xs → x.safe [] = true := by
  intro xs
  induction xs with
  | nil => intro _ x hx; cases hx
  | cons y ys ih =>
    intro h x hx
    simp only [FV.safeL] at h
    split at h
    ·rename_i hy
     rcases List.mem_cons.1 hx with rfl | hx
     ·exact hy
     ·exact ih h x hx
    ·cases h
 induction h with
 | p v x h => intro _; exact .p v x (h.keep hi (fun _ _ _ _ h => h) (.refl _ _))
 | agg cs xs hn _ ih => intro hs; simp only [FV.safe] at hs; exact .agg cs xs hn fun i c x h1 h2 => ih i c x h1 h2 (key hs x (List.mem_of_getElem? h2))
 | tup cs xs hn _ ih => intro hs; simp only [FV.safe] at hs; exact .tup cs xs hn fun i c x h1 h2 => ih i c x h1 h2 (key hs x (List.mem_of_getElem? h2))
 | ptr o off b h => intro hs; simp [FV.safe,memN] at hs
 | tip t T esz xs a c h1 h2 => intro hs; simp [FV.safe,memN] at hs
 | full xs a h => intro _; exact .full xs a (h.keep hi (fun _ _ _ _ h => h) (.refl _ _))
 | fn f fs cs first captured hn hn' _ _ ih ih' =>
   intro hs
   simp only [FV.safe] at hs
   split at hs
   ·rename_i h1
    exact .fn f fs cs first captured hn hn' (fun i c x h2 h3 => ih i c x h2 h3 (key h1 x (List.mem_of_getElem? h3))) (fun i c x h2 h3 => ih' i c x h2 h3 (key hs x (List.mem_of_getElem? h3)))
   ·cases hs
 | yld l k h => intro hs; simp [FV.safe,memN] at hs
 | osl o T esz n c b h1 h2 h3 h4 => intro hs; simp [FV.safe,memN] at hs
 | eptr o base off b h => intro hs; simp [FV.safe,memN] at hs
 | mapr o b h => intro hs; simp [FV.safe,memN] at hs
 | itr o b h => intro hs; simp [FV.safe,memN] at hs
 | junk v => intro _; exact .junk v
theorem safe_tupF {xs : List FV} (h : FV.safeL [] xs = true) : (tupF xs).safe [] = true := by
 match xs,h with
 | [],_ => rfl
 | [x],h =>
   simp only [FV.safeL] at h
   split at h
   ·assumption
   ·cases h
 | _ :: _ :: _,h => exact h
theorem evReturn_sound (hs : SimG E G S a w) {fn : Func} {R : Ret → Prop} (h : evReturn E.C fn.results.toList R S) :
 ∃ v r,(results fn a.tmps).run E.C.P w = .ok v w ∧ R r ∧ RetOK E.imm0 E.w0.heap.size w v r := by
 unfold evReturn at h
 split at h
 ·obtain ⟨vs,xs,g1,g2,g3,g4,g5⟩ := evResF_sound hs _ _ h
  split at g2
  ·rename_i hsafe
   exact ⟨_,_,results_eq fn a.tmps E.C.P w g1,g2,(tup_rep g4 g5).bare (fun b o hi => hs.immB b o hi) (safe_tupF hsafe)⟩
  ·exact g2.elim
 split at h
 ·rename_i t hrs
  have hrun : (results fn a.tmps).run E.C.P w = .ok (a.tmps.getD t undef) w := by
   have := results_eq fn a.tmps E.C.P w (vs := [a.tmps.getD t undef]) (by rw [hrs]; simp [resVar])
   exact this
  have hr := RepF.get hs t
  generalize a.tmps.getD t undef = v at hrun hr
  split at h
  ·rename_i k T esz xs hg
   rw [hg] at hr
   rcases h with h | h
   ·refine ⟨v,_,hrun,h,?_⟩
    cases hr with
    | tip _ _ _ _ ad c h1 h2 =>
    refine ⟨ad,c,rfl,?_⟩
    rcases h2 with ⟨rfl,rfl⟩ | ⟨b,off,rfl,h3,h4⟩
    ·exact .inl ⟨rfl,rfl,rep_out hs h1⟩
    ·obtain ⟨t1,t2,⟨cs,fr,tt⟩,t3⟩ := hs.tails _ _ _ _ _ h4
     refine .inr ⟨b,off,cs,fr,rfl,t2,t1,h3,tt,fun i hi hi' => ⟨(t3 i hi hi').1,(t3 i hi hi').2.1⟩,?_⟩
     refine h1.keep (fun b' o hi => ?_) (fun _ _ _ _ h => h) (.refl _ _)
     rcases hs.immB b' o hi with h5 | h5
     ·exact .inl h5
     ·refine .inr ⟨h5,?_⟩
      rintro ⟨rfl,h6,h7⟩
      exact (t3 o h6 h7).2.2 hi
   ·exact ⟨v,_,hrun,h,rep_out hs (hr.toAV rfl)⟩
  ·rename_i hg
   rw [hg] at hr
   rcases h with ⟨T,esz,h⟩ | h
   ·refine ⟨v,_,hrun,h,?_⟩
    cases hr with
    | full _ ad h1 => exact ⟨ad,0,rfl,.inl ⟨rfl,rfl,rep_out hs h1⟩⟩
   ·exact ⟨v,_,hrun,h,rep_out hs (hr.toAV rfl)⟩
  ·rename_i o hg
   rw [hg] at hr
   obtain ⟨ks,vs,hf,h⟩ := h
   obtain ⟨G',hs',up⟩ := hs.frzMup hf
   have hu := up v _ hr
   rw [show (FV.mapr o).fm o (.mp ks vs) = .p (.mp ks vs) from by simp [FV.fm]] at hu
   exact ⟨v,_,hrun,h,rep_out hs' (hu.toAV rfl)⟩
  ·split at h
   ·rename_i y hy
    exact ⟨v,_,hrun,h,rep_out hs (hr.toAV hy)⟩
   ·exact h.elim
 ·rename_i ad t hrs
  obtain ⟨v,x,h1,h2,h3⟩ := resVar_cell hs h
  split at h2
  ·rename_i y hy
   exact ⟨v,_,results_eq fn a.tmps E.C.P w (vs := [v]) (by rw [hrs]; simp [h1]),h2,rep_out hs (h3.toAV hy)⟩
  ·exact h2.elim
 ·rename_i hn1 hn2
  obtain ⟨vs,xs,g1,g2,g3,g4,g5⟩ := evResults_sound hs _ _ h
  refine ⟨_,_,results_eq fn a.tmps E.C.P w g1,g2,?_⟩
  have : tupOf vs = Value.tuple vs.toArray := by
   clear g1 g4 g5
   match vs,g3 with
   | [],_ => rfl
   | [v],g3 =>
     exfalso
     generalize hrr : fn.results.toList = rr at g3 hn1 hn2
     match rr,g3 with
     | [.tmp t],_ => exact hn1 t rfl
     | [.cell ad t],_ => exact hn2 ad t rfl
   | v :: u :: r,_ => rfl
  rw [this]
  exact rep_out hs (.tup vs xs g4 g5)
end
end Qv

end

section
namespace Qv
open Go Go.RowKit
section
variable {E : Env} {G : Ghost} {S : ASt} {a : Act} {w : World}
theorem SimG.enter (hs : SimG E G S a w) {n : Nat} {tmps : Nat → FV} {vals : Array Value} (hn : vals.size = n) (ht : ∀ i,i < n → RepF G w (vals.getD i undef) (tmps i)) {rnd : Option Nat}
 (hr : ∀ l,rnd = some l → ∃ (i : Nat) (r : Loop),E.loops[i]? = some (l,r)) :
 SimG { E with rnd := rnd,susp := a.tmps :: E.susp,fixed := marksOf a.defers ++ E.fixed } G (S.enter n tmps) { tmps := vals,defers := [] } w := by
 refine ⟨hs.kept,hn,⟨hs.ext'.mps.env rfl rfl rfl,by simp [ASt.enter,hs.ext'.suspLen],fun i vs fr h1 h2 => ?_,hs.ext'.pendLen,hs.ext'.loops,hs.ext'.loopInj,hs.ext'.yl,hr,?_,hs.ext'.glob⟩,⟨hs.bld.at_,hs.bld.row,hs.bld.rowC⟩,hs.immB,hs.immLt,ht,hs.objs,hs.locs,hs.locInj,hs.locTail,hs.tails,hs.tailInj⟩
 ·cases i with
  | zero =>
    simp [ASt.enter] at h1 h2
    subst h1; subst h2
    exact ⟨hs.size,hs.tmps⟩
  | succ i =>
    simp [ASt.enter] at h1 h2
    exact hs.ext'.susp i vs fr h1 h2
 ·obtain ⟨ms,h1,h2,h3⟩ := hs.ext'.marks
  refine ⟨[],rfl,?_,?_⟩
  ·simpa [h1,marksOf_map] using h2
  ·simpa [h1,marksOf_map] using h3
theorem SimG.leave {E : Env} {rnd : Option Nat} {a' : Act} {w' : World} {f : Fr} {r : List Fr} {ms : List Nat} (hs : SimG { E with rnd := rnd,susp := a.tmps :: E.susp,fixed := marksOf a.defers ++ E.fixed } G S a' w') (hf : S.susp = f :: r)
 (hd : a.defers = ms.map mark) (hr : ∀ l,E.rnd = some l → ∃ (i : Nat) (r : Loop),E.loops[i]? = some (l,r)) :
 SimG E G { n := f.n,off := f.off,tmps := f.tmps,objs := S.objs,susp := r,pend := S.pend,blds := S.blds,maps := S.maps,its := S.its } a w' := by
 obtain ⟨h1,h2⟩ := hs.ext'.susp 0 a.tmps f rfl (by rw [hf]; rfl)
 refine ⟨hs.kept,h1,⟨hs.ext'.mps.env rfl rfl rfl,?_,fun i vs fr h3 h4 => ?_,hs.ext'.pendLen,hs.ext'.loops,hs.ext'.loopInj,hs.ext'.yl,hr,⟨ms,hd,?_,?_⟩,hs.ext'.glob⟩,⟨hs.bld.at_,hs.bld.row,hs.bld.rowC⟩,hs.immB,hs.immLt,h2,hs.objs,hs.locs,hs.locInj,hs.locTail,hs.tails,hs.tailInj⟩
 ·have := hs.ext'.suspLen
  rw [hf] at this
  simpa using this
 ·exact hs.ext'.susp (i + 1) vs fr (by simpa using h3) (by rw [hf]; simpa using h4)
 ·obtain ⟨ms',-,h4,-⟩ := hs.ext'.marks
  have h5 : (marksOf a.defers ++ E.fixed).Nodup := (List.nodup_append.1 h4).2.1
  rwa [hd,marksOf_map] at h5
 ·obtain ⟨ms',-,-,h4⟩ := hs.ext'.marks
  intro q hq
  refine h4 q (List.mem_append_right _ ?_)
  show q ∈ marksOf a.defers ++ E.fixed
  rw [hd,marksOf_map]
  exact hq
theorem leave_inv {K : ASt → Prop} (h : S.leave K) : ∃ f r,S.susp = f :: r ∧ K { n := f.n,off := f.off,tmps := f.tmps,objs := S.objs,susp := r,pend := S.pend,blds := S.blds,maps := S.maps,its := S.its } := by
 unfold ASt.leave at h
 split at h
 ·exact h.elim
 ·rename_i f r hf
  exact ⟨f,r,hf,h⟩
theorem leavesM {P : Program} {fn : Func} {tmps : Array Value} {R : Ending → World → Prop} : ∀ (ms : List Nat) {E : Env} {G : Ghost} {S : ASt} {a : Act} {w : World},E.C.P = P → SimG E G S a w → a.tmps = tmps → a.defers = ms.map mark →
 (∀ G a' w',SimG E G S a' w' → a'.tmps = tmps → a'.defers = [] → ∃ v,(results fn tmps).run P w' = .ok v w' ∧ R (.returned v) w') →
 LeavesInM Fence.wide 0 P fn tmps R (ms.map mark) .returning w := by
 intro ms
 induction ms with
 | nil => intro E G S a w hP hs ht hd h; exact h G a w hs ht hd
 | cons m ms ih =>
   intro E G S a w hP hs ht hd h
   obtain ⟨ms',h1,h2,h3⟩ := hs.ext'.marks
   have hms : ms' = m :: ms := by
    have e1 := congrArg marksOf h1
    rw [hd,marksOf_map,marksOf_map] at e1
    exact e1.symm
   subst hms
   obtain ⟨h4,h5⟩ := h3 m (by simp)
   refine ⟨by simp,.inl ⟨m,w.putObj m (.deferred none),rfl,run_takeDeferred h5,?_⟩⟩
   have hnd := h2
   rw [List.cons_append,List.nodup_cons] at hnd
   have hs' : SimG { E with rnd := E.rnd,susp := E.susp,loops := E.loops,fixed := E.fixed } G { S with pend := S.pend } { a with defers := ms.map mark } (w.putObj m (.deferred none)) :=
    hs.putObj (o' := .deferred none) (maps := S.maps) (its := S.its) h5 rfl rfl h4 (fun ⟨es,k,h⟩ => by cases h) (fun keep hother hsame => by
     refine ⟨hs.ext'.mps.otherObj h5 ⟨fun _ _ h => (by cases h),fun _ _ _ _ h => (by cases h)⟩ keep hother rfl rfl rfl,hs.ext'.suspLen,fun i vs fr q1 q2 => ?_,hs.ext'.pendLen,fun i k r st q1 q2 => ?_,hs.ext'.loopInj,hs.ext'.yl,hs.ext'.rnd,⟨ms,rfl,hnd.2,fun r hr => ?_⟩,hs.ext'.glob.of keep⟩
     ·obtain ⟨q3,q4⟩ := hs.ext'.susp i vs fr q1 q2
      exact ⟨q3,fun j hj => keep _ _ (q4 j hj)⟩
     ·obtain ⟨q3,q4⟩ := hs.ext'.loops i k r st q1 q2
      refine ⟨q3,hother _ _ (fun e => ?_) q4⟩
      subst e
      rw [h5] at q4
      cases q4
     ·obtain ⟨q1,q2⟩ := h3 r (List.mem_cons_of_mem _ hr)
      exact ⟨q1,hother _ _ (fun e => hnd.1 (e ▸ hr)) q2⟩)
   exact ih hP hs' ht rfl h
theorem leavesMP {P : Program} {fn : Func} {tmps : Array Value} {chain : List PanicEntry} {R : Ending → World → Prop} : ∀ (ms : List Nat) {E : Env} {G : Ghost} {S : ASt} {a : Act} {w : World},E.C.P = P → SimG E G S a w → a.defers = ms.map mark →
 (∀ G a' w',SimG E G S a' w' → R (.panicked chain) w') → LeavesInM Fence.wide 0 P fn tmps R (ms.map mark) (.panicking chain) w := by
 intro ms
 induction ms with
 | nil => intro E G S a w hP hs hd h; exact h G a w hs
 | cons m ms ih =>
   intro E G S a w hP hs hd h
   obtain ⟨ms',h1,h2,h3⟩ := hs.ext'.marks
   have hms : ms' = m :: ms := by
    have e1 := congrArg marksOf h1
    rw [hd,marksOf_map,marksOf_map] at e1
    exact e1.symm
   subst hms
   obtain ⟨h4,h5⟩ := h3 m (by simp)
   refine ⟨by simp,.inl ⟨m,w.putObj m (.deferred none),rfl,run_takeDeferred h5,?_⟩⟩
   have hnd := h2
   rw [List.cons_append,List.nodup_cons] at hnd
   have hs' : SimG { E with rnd := E.rnd,susp := E.susp,loops := E.loops,fixed := E.fixed } G { S with pend := S.pend } { a with defers := ms.map mark } (w.putObj m (.deferred none)) :=
    hs.putObj (o' := .deferred none) (maps := S.maps) (its := S.its) h5 rfl rfl h4 (fun ⟨es,k,h⟩ => by cases h) (fun keep hother hsame => by
     refine ⟨hs.ext'.mps.otherObj h5 ⟨fun _ _ h => (by cases h),fun _ _ _ _ h => (by cases h)⟩ keep hother rfl rfl rfl,hs.ext'.suspLen,fun i vs fr q1 q2 => ?_,hs.ext'.pendLen,fun i k r st q1 q2 => ?_,hs.ext'.loopInj,hs.ext'.yl,hs.ext'.rnd,⟨ms,rfl,hnd.2,fun r hr => ?_⟩,hs.ext'.glob.of keep⟩
     ·obtain ⟨q3,q4⟩ := hs.ext'.susp i vs fr q1 q2
      exact ⟨q3,fun j hj => keep _ _ (q4 j hj)⟩
     ·obtain ⟨q3,q4⟩ := hs.ext'.loops i k r st q1 q2
      refine ⟨q3,hother _ _ (fun e => ?_) q4⟩
      subst e
      rw [h5] at q4
      cases q4
     ·obtain ⟨q1,q2⟩ := h3 r (List.mem_cons_of_mem _ hr)
      exact ⟨q1,hother _ _ (fun e => hnd.1 (e ▸ hr)) q2⟩)
   exact ih hP hs' rfl h
end
end Qv

end

section
namespace Qv
open Go Go.RowKit
section
variable {E : Env} {G : Ghost} {S : ASt} {a : Act} {w : World}
theorem getP_eq : ∀ (l : List PSt) (n : Nat),getP l n = l[n]?
 | [],n => by simp [getP]
 | p :: l,0 => rfl
 | p :: l,n + 1 => by simp [getP,getP_eq l n]
theorem getF_eq : ∀ (l : List Fr) (n : Nat),getF l n = l[n]?
 | [],n => by simp [getF]
 | p :: l,0 => rfl
 | p :: l,n + 1 => by simp [getF,getF_eq l n]
theorem setP_eq : ∀ (l : List PSt) (n : Nat) (q : PSt),setP l n q = l.set n q
 | [],n,q => by simp [setP]
 | p :: l,0,q => rfl
 | p :: l,n + 1,q => by simp [setP,setP_eq l n q]
theorem ready_of (r : Loop) (h1 : r.state = .ready) (h2 : r.pending = none) : PSt.ready.of r = r := by
 cases r
 simp only at h1 h2
 subst h1; subst h2
 rfl
theorem setTs_rep : ∀ (ps : List Nat) (vals : List Value) (args : List FV) (t : Array Value) (f : Nat → FV) (n : Nat),vals.length = args.length → vals.length = ps.length → t.size = n →
 (∀ i,i < n → RepF G w (t.getD i undef) (f i)) → (∀ (i : Nat) (v : Value) (x : FV),vals[i]? = some v → args[i]? = some x → RepF G w v x) →
 ((ps.zip vals).foldl (fun t (p,v) => t.setIfInBounds p v) t).size = n ∧ ∀ i,i < n → RepF G w (((ps.zip vals).foldl (fun t (p,v) => t.setIfInBounds p v) t).getD i undef) (setTs f ps args i)
 | [],vals,args,t,f,n,h1,h2,h3,h4,h5 => by
   cases args with
   | nil => exact ⟨by simpa using h3,by simpa [setTs] using h4⟩
   | cons x args => simp at h2; subst h2; simp at h1
 | p :: ps,[],args,t,f,n,h1,h2,h3,h4,h5 => by simp at h2
 | p :: ps,v :: vals,[],t,f,n,h1,h2,h3,h4,h5 => by simp at h1
 | p :: ps,v :: vals,x :: args,t,f,n,h1,h2,h3,h4,h5 => by
   simp only [List.zip_cons_cons,List.foldl_cons,setTs]
   refine setTs_rep ps vals args (t.setIfInBounds p v) _ n (by simpa using h1) (by simpa using h2) (by simpa using h3) (fun i hi => ?_) (fun i u y hu hy => h5 (i + 1) u y (by simpa using hu) (by simpa using hy))
   have hi' : i < t.size := by omega
   by_cases hd : i = p
   ·subst hd
    have : Nat.beq i i = true := by simp
    rw [this]
    have hv := h5 0 v x rfl rfl
    simpa [Array.getD,hi'] using hv
   ·have : Nat.beq i p = false := by
     cases hb : Nat.beq i p
     ·rfl
     ·exact absurd (Nat.eq_of_beq_eq_true hb) hd
    rw [this]
    have := h4 i hi
    simpa [Array.getD,hi',Array.getElem_setIfInBounds,Ne.symm hd] using this
theorem SimG.loopAt (hs : SimG E G S a w) {i k : Nat} {r : Loop} {st : PSt} (h1 : E.loops[i]? = some (k,r)) (h2 : getP S.pend i = some st) : E.w0.heap.size ≤ k ∧ w.heap[k]? = some (.loop (st.of r)) :=
 hs.ext'.loops i k r st h1 (by rw [← getP_eq]; exact h2)
theorem SimG.turn (hs : SimG E G S a w) {i k : Nat} {r : Loop} {st st' : PSt} (h1 : E.loops[i]? = some (k,r)) (h2 : getP S.pend i = some st) :
 SimG E G { S with pend := setP S.pend i st' } a (w.putObj k (.loop (st'.of r))) := by
 obtain ⟨h3,h4⟩ := hs.loopAt h1 h2
 refine hs.putObj (o := .loop (st.of r)) (o' := .loop (st'.of r)) h4 rfl rfl h3 (fun ⟨es,k,h⟩ => by cases h) (maps := S.maps) (its := S.its) (rnd := E.rnd) (susp := E.susp) (loops := E.loops) (fixed := E.fixed) (defers := a.defers) (fun keep hother hsame => ?_)
 refine ⟨hs.ext'.mps.otherObj h4 ⟨fun _ _ h => (by cases h),fun _ _ _ _ h => (by cases h)⟩ keep hother rfl rfl rfl,hs.ext'.suspLen,fun j vs fr q1 q2 => ?_,by simp only [setP_eq,List.length_set]; exact hs.ext'.pendLen,fun j k' r' st2 q1 q2 => ?_,hs.ext'.loopInj,hs.ext'.yl,hs.ext'.rnd,?_,hs.ext'.glob.of keep⟩
 ·obtain ⟨q3,q4⟩ := hs.ext'.susp j vs fr q1 q2
  exact ⟨q3,fun j hj => keep _ _ (q4 j hj)⟩
 ·simp only [setP_eq] at q2
  by_cases hj : j = i
  ·subst hj
   rw [h1] at q1
   obtain ⟨rfl,rfl⟩ := Prod.mk.inj (Option.some.inj q1)
   have hlt : j < S.pend.length := by
    rw [getP_eq] at h2
    exact (List.getElem?_eq_some_iff.1 h2).1
   rw [List.getElem?_set_self hlt] at q2
   obtain rfl := Option.some.inj q2
   exact ⟨h3,hsame⟩
  ·rw [List.getElem?_set_ne (Ne.symm hj)] at q2
   obtain ⟨q3,q4⟩ := hs.ext'.loops j k' r' st2 q1 q2
   refine ⟨q3,hother _ _ (fun e => ?_) q4⟩
   subst e
   exact hj (hs.ext'.loopInj j i k' r' r q1 h1)
 ·obtain ⟨ms,q1,q2,q3⟩ := hs.ext'.marks
  refine ⟨ms,q1,q2,fun q hq => ?_⟩
  obtain ⟨q4,q5⟩ := q3 q hq
  refine ⟨q4,hother _ _ (fun e => ?_) q5⟩
  subst e
  rw [h4] at q5
  cases q5
theorem SimG.pushLoop (hs : SimG E G S a w) {l : Nat} {rec : Loop} {ms : List Nat} (hl : w.heap[l]? = some (.loop (PSt.ready.of rec))) (hw0 : E.w0.heap.size ≤ l)
 (hnew : ∀ (i k : Nat) (r : Loop),E.loops[i]? = some (k,r) → k ≠ l) (hms : ∀ m,m ∈ ms → E.w0.heap.size ≤ m ∧ w.heap[m]? = some (.deferred (some []))) (hnd : (ms ++ (marksOf a.defers ++ E.fixed)).Nodup) :
 ∃ G',SimG { E with loops := E.loops ++ [(l,rec)] } G' { S.kill (1000000 + S.pend.length) with pend := S.pend ++ [.ready] } { a with defers := ms.map mark ++ a.defers } w ∧
   G'.yl (1000000 + S.pend.length) = some l ∧ ∀ v x,RepF G w v x → RepF G' w v (x.kill (1000000 + S.pend.length)) := by
 generalize hlv : S.pend.length = lvl
 have hlvl : lvl = E.loops.length := hlv ▸ hs.ext'.pendLen
 let G' : Ghost := { G.free (1000000 + lvl) with yl := fun n => if n = 1000000 + lvl then some l else G.yl n }
 have up : ∀ v x,RepF G w v x → RepF G' w v (x.kill (1000000 + lvl)) := fun v x h =>
  h.kill _ rfl (fun o b h h' => by simp only [G',Ghost.free]; rw [if_neg h]; exact h') (fun t r h h' => by simp only [G',Ghost.free]; rw [if_neg h]; exact h')
   (fun n k h h' => by simp only [G']; rw [if_neg h]; exact h') (hmp := Ghost.free_mp.1) (hit := Ghost.free_mp.2.2.1)
 have hmv : Moves (FV.kill (1000000 + lvl)) G G' S (S.kill (1000000 + lvl)) w := .kill _ rfl Ghost.free_mp.1 Ghost.free_mp.2.1 Ghost.free_mp.2.2.1 Ghost.free_mp.2.2.2 (fun o b h => by simp only [G',Ghost.free] at h; split at h; cases h; exact h)
 have h1 := hs.kill (1000000 + lvl)
 have up2 : ∀ v x,RepF (G.free (1000000 + lvl)) w v x → (∀ k,x ≠ .yld k) → True := fun _ _ _ _ => trivial
 refine ⟨G',⟨h1.kept,h1.size,⟨(hs.ext'.mps.move _ up (.refl _) hmv).env rfl rfl rfl,?_,fun i vs fr q1 q2 => ?_,?_,fun i k r st q1 q2 => ?_,fun i j k r r' q1 q2 => ?_,fun i k r q1 k' q2 => ?_,fun q hq => ?_,?_,hs.ext'.glob⟩,⟨h1.bld.at_,h1.bld.row,h1.bld.rowC⟩,h1.immB,h1.immLt,fun i hi => up _ _ (hs.tmps i hi),fun o cells ho => ?_,h1.locs,h1.locInj,h1.locTail,h1.tails,h1.tailInj⟩,by simp [G'],up⟩
 ·exact h1.ext'.suspLen
 ·have q2' : (frMap (FV.kill (1000000 + lvl)) S.susp)[i]? = some fr := q2
  rw [frMap_eq,List.getElem?_map] at q2'
  cases hx : S.susp[i]? with
  | none => simp [hx] at q2'
  | some fr0 =>
    simp [hx] at q2'
    subst q2'
    obtain ⟨q3,q4⟩ := hs.ext'.susp i vs fr0 q1 hx
    exact ⟨q3,fun j hj => up _ _ (q4 j hj)⟩
 ·simp only [List.length_append,List.length_cons,List.length_nil]
  rw [hs.ext'.pendLen]
 ·by_cases hi : i < E.loops.length
  ·rw [List.getElem?_append_left hi] at q1
   rw [List.getElem?_append_left (by rw [hs.ext'.pendLen]; exact hi)] at q2
   exact hs.ext'.loops i k r st q1 q2
  ·have hil := (List.getElem?_eq_some_iff.1 q1).1
   simp at hil
   have : i = E.loops.length := by omega
   subst this
   rw [List.getElem?_append_right (Nat.le_refl _)] at q1
   rw [List.getElem?_append_right (by rw [hs.ext'.pendLen]; exact Nat.le_refl _)] at q2
   simp [hs.ext'.pendLen] at q1 q2
   obtain ⟨rfl,rfl⟩ := q1
   subst q2
   exact ⟨hw0,hl⟩
 ·have hlast : ∀ (i k : Nat) (r : Loop),(E.loops ++ [(l,rec)])[i]? = some (k,r) → (i < E.loops.length ∧ E.loops[i]? = some (k,r)) ∨ (i = E.loops.length ∧ k = l) := fun i k r q => by
   by_cases hi : i < E.loops.length
   ·rw [List.getElem?_append_left hi] at q
    exact .inl ⟨hi,q⟩
   ·have hil := (List.getElem?_eq_some_iff.1 q).1
    simp at hil
    have : i = E.loops.length := by omega
    subst this
    rw [List.getElem?_append_right (Nat.le_refl _)] at q
    simp at q
    exact .inr ⟨rfl,q.1.symm⟩
  rcases hlast i k r q1 with ⟨-,e1⟩ | ⟨e1,e2⟩ <;> rcases hlast j k r' q2 with ⟨-,e3⟩ | ⟨e3,e4⟩
  ·exact hs.ext'.loopInj i j k r r' e1 e3
  ·exact absurd e4 (hnew i k r e1)
  ·exact absurd e2 (hnew j k r' e3)
  ·omega
 ·simp only [G'] at q2
  by_cases hi : i < E.loops.length
  ·rw [List.getElem?_append_left hi] at q1
   rw [if_neg (by omega)] at q2
   exact hs.ext'.yl i k r q1 k' q2
  ·have hil := (List.getElem?_eq_some_iff.1 q1).1
   simp at hil
   have : i = E.loops.length := by omega
   subst this
   rw [List.getElem?_append_right (Nat.le_refl _)] at q1
   simp at q1
   rw [if_pos (by omega)] at q2
   rw [← q1.1]
   exact (Option.some.inj q2).symm
 ·obtain ⟨i,r,q1⟩ := hs.ext'.rnd q hq
  exact ⟨i,r,by rw [List.getElem?_append_left (List.getElem?_eq_some_iff.1 q1).1]; exact q1⟩
 ·obtain ⟨ms',q1,q2,q3⟩ := hs.ext'.marks
  rw [q1,marksOf_map] at hnd
  refine ⟨ms ++ ms',by simp [q1],by simpa [List.append_assoc] using hnd,fun r hr => ?_⟩
  rw [List.append_assoc] at hr
  rcases List.mem_append.1 hr with hr | hr
  ·exact hms r hr
  ·exact q3 r hr
 ·obtain ⟨hne,cs,q2,rfl⟩ := getObj_del ho
  obtain ⟨b,q3,q4⟩ := hs.objs o cs q2
  refine ⟨b,by simp only [G',Ghost.free]; rw [if_neg hne]; exact q3,fun i x hx => ?_⟩
  rw [FV.killL_eq,List.getElem?_map] at hx
  cases hc : cs[i]? with
  | none => simp [hc] at hx
  | some y =>
    simp [hc] at hx
    subst hx
    obtain ⟨c,q5,q6⟩ := q4 i y hc
    exact ⟨c,q5,up _ _ q6⟩
theorem SimG.popLoop {l : Nat} {rec : Loop} {st : PSt} (hs : SimG { E with loops := E.loops ++ [(l,rec)] } G S a w) (hst : getP S.pend E.loops.length = some st) (hr : ∀ q,E.rnd = some q → ∃ (i : Nat) (r : Loop),E.loops[i]? = some (q,r)) {o' : Loop} :
 SimG E G { S with pend := S.pend.take E.loops.length } a (w.putObj l (.loop o')) := by
 have h0 : (E.loops ++ [(l,rec)])[E.loops.length]? = some (l,rec) := by rw [List.getElem?_append_right (Nat.le_refl _)]; simp
 obtain ⟨h3,h4⟩ := hs.loopAt h0 hst
 refine hs.putObj (o := .loop (st.of rec)) (o' := .loop o') h4 rfl rfl h3 (fun ⟨es,k,h⟩ => by cases h) (maps := S.maps) (its := S.its) (rnd := E.rnd) (susp := E.susp) (loops := E.loops) (fixed := E.fixed) (defers := a.defers) (fun keep hother hsame => ?_)
 have hlen : S.pend.length = E.loops.length + 1 := by
  have := hs.ext'.pendLen
  simpa using this
 have hin : ∀ (i k : Nat) (r : Loop),E.loops[i]? = some (k,r) → (E.loops ++ [(l,rec)])[i]? = some (k,r) := fun i k r q => by rw [List.getElem?_append_left (List.getElem?_eq_some_iff.1 q).1]; exact q
 refine ⟨hs.ext'.mps.otherObj h4 ⟨fun _ _ h => (by cases h),fun _ _ _ _ h => (by cases h)⟩ keep hother rfl rfl rfl,hs.ext'.suspLen,fun j vs fr q1 q2 => ?_,by simp [hlen],fun j k' r' st2 q1 q2 => ?_,fun i j k r r' q1 q2 => hs.ext'.loopInj i j k r r' (hin _ _ _ q1) (hin _ _ _ q2),fun i k r q1 => hs.ext'.yl i k r (hin _ _ _ q1),hr,?_,hs.ext'.glob.of keep⟩
 ·obtain ⟨q3,q4⟩ := hs.ext'.susp j vs fr q1 q2
  exact ⟨q3,fun j hj => keep _ _ (q4 j hj)⟩
 ·have hj := (List.getElem?_eq_some_iff.1 q1).1
  rw [List.getElem?_take_of_lt hj] at q2
  obtain ⟨q3,q4⟩ := hs.ext'.loops j k' r' st2 (hin _ _ _ q1) q2
  refine ⟨q3,hother _ _ (fun e => ?_) q4⟩
  subst e
  exact absurd (hs.ext'.loopInj j E.loops.length k' r' rec (hin _ _ _ q1) h0) (Nat.ne_of_lt hj)
 ·obtain ⟨ms,q1,q2,q3⟩ := hs.ext'.marks
  refine ⟨ms,q1,q2,fun q hq => ?_⟩
  obtain ⟨q4,q5⟩ := q3 q hq
  refine ⟨q4,hother _ _ (fun e => ?_) q5⟩
  subst e
  rw [h4] at q5
  cases q5
def CodeOK (c : Code) : Prop := ∀ {E : Env} {call : CallH} {Y : Yld},CallOK E.C call → YldSound E Y → ∀ {Q : Exit → ASt → Prop} {S : ASt} {a : Act} {w : World},(E.susp = [] → PanA E.C Q) → evF E.C call Y c Q S → Sim E S a w →
 c.wpIn E.fence 0 E.C.P (fun e a' w' => ∃ S',Q e S' ∧ Sim E S' a' w') a w
theorem round_sound {E : Env} {call : CallH} {Y : Yld} (hcall : CallOK E.C call) (hY : YldSound E Y) {assign body : Code} (ha : CodeOK assign) (hb : CodeOK body) {a1 : Act} {l : Nat} {rec : Loop} {fixed0 : List Nat}
 (hrt : rec.tmps = a1.tmps) (hra : rec.assign = assign) (hrb : rec.body = body) (hr1 : rec.state = .ready) (hr2 : rec.pending = none) :
 YldSound { E with rnd := none,susp := a1.tmps :: E.susp,loops := E.loops ++ [(l,rec)],fixed := fixed0 } (evRound Y (evF E.C call Y assign) (evF E.C call Y body) rec.params.toList E.loops.length E.susp.length) := by
 intro rnd xs ls fixed G S a w ln k args K vals hs hk h hlen hrep
 have e1 : xs ++ a1.tmps :: E.susp = (xs ++ [a1.tmps]) ++ E.susp := by simp
 have e2 : (E.loops ++ [(l,rec)]) ++ ls = E.loops ++ ([(l,rec)] ++ ls) := by simp
 unfold evRound at h
 split at h
 ·have hY' := hY rnd (xs ++ [a1.tmps]) ([(l,rec)] ++ ls) fixed G S a w ln k args K vals
  rw [← e1,← e2] at hY'
  exact hY' hs hk h hlen hrep
 ·rename_i hln
  obtain rfl := Nat.eq_of_beq_eq_true hln
  split at h
  ·rename_i fr hp hfr
   obtain ⟨hargs,h⟩ := h
   have hargs := Nat.eq_of_beq_eq_true hargs
   have hidx : ((E.loops ++ [(l,rec)]) ++ ls)[E.loops.length]? = some (l,rec) := by
    rw [List.getElem?_append_left (by simp),List.getElem?_append_right (Nat.le_refl _)]; simp
   obtain rfl := hs.ext'.yl E.loops.length l rec hidx k hk
   obtain ⟨hk1,hk2⟩ := hs.loopAt hidx hp
   rw [ready_of rec hr1 hr2] at hk2
   have hfr' : S.susp[xs.length]? = some fr := by
    unfold loopFr at hfr
    rw [getF_eq,hs.ext'.suspLen] at hfr
    have : (xs ++ a1.tmps :: E.susp).length - E.susp.length - 1 = xs.length := by simp; omega
    rw [this] at hfr
    exact hfr
   obtain ⟨hsz,htm⟩ := hs.ext'.susp xs.length a1.tmps fr (by simp) hfr'
   have hy := run_yield (P := E.C.P) (args := vals.toArray) hk2 (by
    rw [← Array.length_toList,← Array.length_toList]
    simp only [List.toList_toArray]
    omega)
   refine ⟨_,_,_,_,hy,?_⟩
   have hpl : vals.length = rec.params.toList.length := by rw [hlen,hargs]
   have hts := setTs_rep (G := G) (w := w) rec.params.toList vals args a1.tmps fr.tmps fr.n hlen hpl hsz htm hrep
   have hfold : (rec.params.zip vals.toArray).foldl (fun tmps x => match x with | (t,a) => tmps.setIfInBounds t a) rec.tmps = (rec.params.toList.zip vals).foldl (fun t (p,v) => t.setIfInBounds p v) a1.tmps := by
    rw [← Array.foldl_toList,hrt]
    simp
   rw [hfold,hra,hrb]
   have hrnd : ∀ q,(some k : Option Nat) = some q → ∃ (i : Nat) (r : Loop),((E.loops ++ [(k,rec)]) ++ ls)[i]? = some (q,r) := fun q hq => by
    obtain rfl := Option.some.inj hq
    exact ⟨E.loops.length,rec,hidx⟩
   have hs1 := hs.enter (n := fr.n) (vals := (rec.params.toList.zip vals).foldl (fun t (p,v) => t.setIfInBounds p v) a1.tmps) hts.1 hts.2 (rnd := some k) hrnd
   have hYr : YldSound { E with rnd := some k,susp := a.tmps :: (xs ++ a1.tmps :: E.susp),loops := (E.loops ++ [(k,rec)]) ++ ls,fixed := marksOf a.defers ++ fixed } Y := by
    have := hY.later (some k) (a.tmps :: (xs ++ [a1.tmps])) ([(k,rec)] ++ ls) (marksOf a.defers ++ fixed)
    rw [← e2] at this
    have e3 : (a.tmps :: (xs ++ [a1.tmps])) ++ E.susp = a.tmps :: (xs ++ a1.tmps :: E.susp) := by simp
    rw [e3] at this
    exact this
   have hA := ha (E := { E with rnd := some k,susp := a.tmps :: (xs ++ a1.tmps :: E.susp),loops := (E.loops ++ [(k,rec)]) ++ ls,fixed := marksOf a.defers ++ fixed }) hcall hYr (fun h => by cases h) h ⟨_,hs1⟩
   refine roundIn_of_wpIn (F := Fence.wide) trivial (wpIn_mono hA ?_)
   rintro e a2 w2 ⟨S2,hq,G2,hs2⟩
   cases e with
   | normal =>
     simp only [thenX,roundIn] at hq
     split at hq
     ·rename_i hp2
      obtain ⟨-,hk3⟩ := hs2.loopAt hidx hp2
      refine ⟨_,run_beginRound hk3 rfl,?_⟩
      have hs3 := hs2.turn (st' := .busy) hidx hp2
      have hB := hb (E := { E with rnd := some k,susp := a.tmps :: (xs ++ a1.tmps :: E.susp),loops := (E.loops ++ [(k,rec)]) ++ ls,fixed := marksOf a.defers ++ fixed }) hcall hYr (fun h => by cases h) hq ⟨_,hs3⟩
      refine wpIn_mono hB ?_
      obtain ⟨ms,hms,-,-⟩ := hs.ext'.marks
      have fin : ∀ {st : PSt} {b : Bool} {jump : Option Code} {S4 : ASt} {a4 : Act} {w4 : World},roundOut E.loops.length st (K (.p (.bool b))) S4 →
       Sim { E with rnd := some k,susp := a.tmps :: (xs ++ a1.tmps :: E.susp),loops := (E.loops ++ [(k,rec)]) ++ ls,fixed := marksOf a.defers ++ fixed } S4 a4 w4 → jump.isNone = b →
       (Loop.mk (if jump.isNone then LoopState.ready else .done) jump rec.fn rec.tmps rec.params rec.assign rec.body rec.defers) = st.of rec →
       ∃ v w',(Instr.endRound k jump).run E.C.P w4 = .ok v w' ∧ ∃ v_1 x G' S',Ending.returned v = .returned v_1 ∧ K x S' ∧ SimG { E with rnd := rnd,susp := xs ++ a1.tmps :: E.susp,loops := (E.loops ++ [(k,rec)]) ++ ls,fixed := fixed } G' S' a w' ∧ RepF G' w' v_1 x := fun {st b jump S4 a4 w4} hq4 ⟨G4,hs4⟩ hj hrec => by
       unfold roundOut at hq4
       split at hq4
       ·rename_i hp4
        obtain ⟨-,hk4⟩ := hs4.loopAt hidx hp4
        obtain ⟨f,r,hf,hK⟩ := leave_inv hq4
        have hs5 := hs4.turn (st' := st) hidx hp4
        have hs6 := SimG.leave (E := { E with rnd := rnd,susp := xs ++ a1.tmps :: E.susp,loops := (E.loops ++ [(k,rec)]) ++ ls,fixed := fixed }) (a := a) (rnd := some k) (ms := ms) hs5 hf hms hs.ext'.rnd
        have hend := run_endRound (P := E.C.P) jump hk4
        refine ⟨_,_,hend,.bool jump.isNone,_,G4,_,rfl,hK,?_,.p _ _ (hj ▸ .bool _)⟩
        have : ({ PSt.of rec .busy with state := if jump.isNone then LoopState.ready else .done,pending := jump } : Loop) = st.of rec := hrec
        rw [this]
        exact hs6
       ·exact hq4.elim
      rintro e a4 w4 ⟨S4,hq4,hs4⟩
      cases e with
      | normal => exact fin (jump := none) hq4 hs4 rfl rfl
      | ret => exact fin (jump := some .ret) hq4 hs4 rfl rfl
      | exit id => exact fin (jump := some (.exit id)) hq4 hs4 rfl rfl
      | _ => exact hq4.elim
     ·exact hq.elim
   | _ => exact hq.elim
  ·exact h.elim
end
end Qv

end

section
namespace Qv
open Go Go.RowKit
section
variable {E : Env} {G : Ghost} {S : ASt} {a : Act} {w : World}
theorem enterLoop_any (hs : SimG E G S a w) (fn : FuncId) (ps : Array Tmp) (assign body : Code) :
 ∃ (l : Nat) (ms : List Nat) (w1 : World) (rec : Loop),(Instr.enterLoop fn a.tmps ps assign body E.rnd).run E.C.P w = .ok (l,ms.map mark) w1 ∧ Below w.heap.size w w1 ∧
   rec.tmps = a.tmps ∧ rec.params = ps ∧ rec.assign = assign ∧ rec.body = body ∧ rec.state = .ready ∧ rec.pending = none ∧ w1.heap[l]? = some (.loop rec) ∧ w.heap.size ≤ l ∧
   (∀ m,m ∈ ms → w.heap.size ≤ m ∧ w1.heap[m]? = some (.deferred (some []))) ∧ ms.Nodup := by
 cases hr : E.rnd with
 | none =>
   refine ⟨_,[w.heap.size],_,{ state := .ready,pending := none,fn,tmps := a.tmps,params := ps,assign,body,defers := w.heap.size },run_enterLoop_outer fn a.tmps ps assign body,?_,rfl,rfl,rfl,rfl,rfl,rfl,?_,by omega,fun m hm => ?_,by simp⟩
   ·exact ((Below.refl _ w).alloc (Nat.le_refl _) _).alloc (by simp) _
   ·have := World.alloc_heap_new (w.alloc (.deferred (some []))) (.loop { state := .ready,pending := none,fn,tmps := a.tmps,params := ps,assign,body,defers := w.heap.size })
    rwa [World.size_alloc] at this
   ·obtain rfl := List.mem_singleton.1 hm
    exact ⟨Nat.le_refl _,(Below.heap_alloc _ _ _ (by simp)).trans (World.alloc_heap_new w _)⟩
 | some l0 =>
   obtain ⟨i,r,h1⟩ := hs.ext'.rnd l0 hr
   have hlt : i < S.pend.length := by
    rw [hs.ext'.pendLen]
    exact (List.getElem?_eq_some_iff.1 h1).1
   obtain ⟨h2,h3⟩ := hs.ext'.loops i l0 r _ h1 (List.getElem?_eq_getElem hlt)
   refine ⟨_,[],_,{ state := .ready,pending := none,fn,tmps := a.tmps,params := ps,assign,body,defers := ((S.pend[i]).of r).defers },run_enterLoop_inner h3 fn a.tmps ps assign body,?_,rfl,rfl,rfl,rfl,rfl,rfl,World.alloc_heap_new w _,Nat.le_refl _,by simp,by simp⟩
   exact (Below.refl _ w).alloc (Nat.le_refl _) _
theorem range_sound {call : CallH} {Y : Yld} (hcall : CallOK E.C call) (hY : YldSound E Y) {assign body : Code} (ha : CodeOK assign) (hb : CodeOK body) {g : Operand} {ps : Array Tmp} {Q : Exit → ASt → Prop}
 (hs : SimG E G S a w) {f : FuncId} {cs : List Value} {captured : List FV} (hg : a.eval g = .func (.func f) #[] cs.toArray) (hcs : cs.length = captured.length) (hrep : ∀ (i : Nat) (c : Value) (x : FV),cs[i]? = some c → captured[i]? = some x → RepF G w c x)
 (h : call (evRound Y (evF E.C call Y assign) (evF E.C call Y body) ps.toList S.pend.length S.susp.length) f (.yld (1000000 + S.pend.length) :: FV.killL (1000000 + S.pend.length) captured)
  (fun _ S' => rangeEnd S.pend.length Q S') { S.kill (1000000 + S.pend.length) with pend := S.pend ++ [.ready] }) :
 (Code.rangeFunc g ps assign body).wpIn E.fence 0 E.C.P (fun e a' w' => ∃ S',Q e S' ∧ Sim E S' a' w') a w := by
 refine wpIn_rangeFunc fun fn hfn => ?_
 obtain ⟨l,ms,w1,rec,hrun,hbel,hr1,hr2,hr3,hr4,hr5,hr6,hl,hlsz,hms,hnd⟩ := enterLoop_any hs fn ps assign body
 have hs1 := hs.ext hbel
 have hkeep1 : ∀ v x,RepF G w v x → RepF { G with imm := fun b o => G.imm b o ∨ (w.heap.size ≤ b ∧ b < w1.heap.size) } w1 v x := fun v x hv =>
  hv.keep (fun b o hi => .inl hi) (fun b o c hi hc => by rw [hbel.cell (p := ⟨b,o,none⟩) (hs.immLt b o hi)]; exact hc) ((Others.of_below hbel).stands _) (fun _ _ e => e) (fun _ _ e => e)
 obtain ⟨ms0,hm1,hm2,hm3⟩ := hs.ext'.marks
 have hold : ∀ r,r ∈ ms0 ++ E.fixed → r < w.heap.size := fun r hr => (Array.getElem?_eq_some_iff.1 (hm3 r hr).2).1
 obtain ⟨G1,hs2,hyl,hup⟩ := hs1.pushLoop (l := l) (rec := rec) (ms := ms) (by rw [ready_of rec hr5 hr6]; exact hl) (Nat.le_trans hs.kept.size hlsz)
  (fun i k r q => by
   have hlt : i < S.pend.length := by
    rw [hs.ext'.pendLen]
    exact (List.getElem?_eq_some_iff.1 q).1
   obtain ⟨-,q2⟩ := hs.ext'.loops i k r _ q (List.getElem?_eq_getElem hlt)
   have := (Array.getElem?_eq_some_iff.1 q2).1
   omega)
  (fun m hm => ⟨Nat.le_trans hs.kept.size (hms m hm).1,(hms m hm).2⟩)
  (by
   rw [hm1,marksOf_map]
   refine List.nodup_append.2 ⟨hnd,hm2,fun x hx y hy e => ?_⟩
   subst e
   have h1 := (hms x hx).1
   have h2 := hold x hy
   omega)
 have hlv : S.pend.length = E.loops.length := hs.ext'.pendLen
 have hsl : S.susp.length = E.susp.length := hs.ext'.suspLen
 have hYr := round_sound (E := E) hcall hY ha hb (a1 := { a with defers := ms.map mark ++ a.defers }) (l := l) (rec := rec) (fixed0 := marksOf (ms.map mark ++ a.defers) ++ E.fixed) hr1 hr3 hr4 hr5 hr6
 rw [hr2,← hlv,← hsl] at hYr
 obtain ⟨⟨func,hf1,hf2,hf3⟩,hcalls⟩ := hcall { E with loops := E.loops ++ [(l,rec)] } rfl _ f _ _ G1 _ _ w1 (.func (.yield l) #[] #[] :: cs) hs2 hYr h
  (by simp [FV.killL_eq,hcs])
  (fun i c x hc hx => by
   cases i with
   | zero =>
     simp at hc hx
     subst hc; subst hx
     exact .yld _ l hyl
   | succ i =>
     simp only [List.getElem?_cons_succ] at hc hx
     rw [FV.killL_eq,List.getElem?_map] at hx
     cases hq : captured[i]? with
     | none => simp [hq] at hx
     | some y =>
       simp [hq] at hx
       subst hx
       exact hup _ _ (hkeep1 _ _ (hrep i c y hc hq)))
 refine ⟨l,ms.map mark,w1,{ target := .fn (.func f) cs.toArray,args := #[.func (.yield l) #[] #[]] },w1,f,(.func (.yield l) #[] #[] :: cs).toArray,w1,?_,?_,fun f' _ => Env.fence_fn f',?_,fun h => (by rw [Env.fence_depth] at h; cases h),fence_eq (CallsIn.mono hcalls ?_)⟩
 ·rw [Env.fence_round]; exact hrun
 ·simp only [resolve,hg]
  simp [go_sem]
 ·have h3' : ¬ func.name = "runtime.NumGoroutine" := by simpa using hf3
  have h2' : ¬ func.body = none := fun e => by rw [e] at hf2; cases hf2
  simp [invoke,callFunc,hf1,h2',h3']
 ·rintro e w' ⟨v,x,G',S',rfl,hq,hs',-⟩
  unfold rangeEnd at hq
  have hrn : ∀ q,E.rnd = some q → ∃ (i : Nat) (r : Loop),E.loops[i]? = some (q,r) := hs.ext'.rnd
  have fin : ∀ {st : PSt},getP S'.pend S.pend.length = some st → (st.of rec).state ≠ .busy → ∃ w4,(Instr.endLoop l).run E.C.P w' = .ok (st.of rec).pending w4 ∧
   SimG E G' { S' with pend := S'.pend.take S.pend.length } { a with defers := ms.map mark ++ a.defers } w4 := fun {st} hst hnb => by
   rw [hlv] at hst
   obtain ⟨-,hl4⟩ := hs'.loopAt (i := E.loops.length) (k := l) (r := rec) (by
    show (E.loops ++ [(l,rec)])[E.loops.length]? = _
    rw [List.getElem?_append_right (Nat.le_refl _)]; simp) hst
   refine ⟨_,run_endLoop hl4 hnb,?_⟩
   have := SimG.popLoop (E := E) hs' hst hrn (o' := { st.of rec with state := .exhausted })
   rw [← hlv] at this
   exact this
  split at hq
  ·rename_i hst
   obtain ⟨w4,he,hs4⟩ := fin hst (by simp [PSt.of])
   exact ⟨_,w4,he,_,hq,G',hs4⟩
  ·rename_i hst
   obtain ⟨w4,he,hs4⟩ := fin hst (by simp [PSt.of])
   exact ⟨_,w4,he,wpIn_ret ⟨_,hq,G',hs4⟩⟩
  ·rename_i id hst
   obtain ⟨w4,he,hs4⟩ := fin hst (by simp [PSt.of])
   exact ⟨_,w4,he,wpIn_exit ⟨_,hq,G',hs4⟩⟩
  ·exact hq.elim
theorem panOK {E : Env} {Q : Exit → ASt → Prop} (hA : E.susp = [] → PanA E.C Q) : PanOK E fun e a' w' => ∃ S',Q e S' ∧ Sim E S' a' w' :=
 fun he v S a w ys h1 h2 h3 h4 => ⟨S,hA he v S ys h1 h2 h3,h4⟩
theorem evF_sound (c : Code) : CodeOK c := by
 induction c with
 | skip => intro E call Y hcall hY Q S a w hA h hs; exact wpIn_skip ⟨S,h,hs⟩
 | region id ops draw =>
   intro E call Y hcall hY Q S a w hA h hs
   unfold evF at h
   split at h
   ·obtain ⟨T,hw,h⟩ := h
    exact evRegion_sound hcall hY (fun S a w hk hs' => ⟨S,hk,hs'⟩) (panOK hA) (hs.weaken hw) h
   ·split at h
    ·obtain ⟨d,Z,yss,hf,h⟩ := h
     obtain ⟨G,hs⟩ := hs
     exact evRegion_sound hcall hY (fun S a w hk hs' => ⟨S,hk,hs'⟩) (panOK hA) (hs.frzO hf) h
    ·split at h
     ·obtain ⟨d,ks,vs,hf,h⟩ := h
      obtain ⟨G,hs⟩ := hs
      exact evRegion_sound hcall hY (fun S a w hk hs' => ⟨S,hk,hs'⟩) (panOK hA) (hs.frzM hf) h
     ·split at h
      ·obtain ⟨d,e,hd,he,h⟩ := h
       obtain ⟨G,hs⟩ := hs
       exact evRegion_sound hcall hY (fun S a w hk hs' => ⟨S,hk,hs'⟩) (panOK hA) (hs.rn (Nat.ne_of_beq_eq_false hd) (Nat.ne_of_beq_eq_false he)) h
      ·exact evRegion_sound hcall hY (fun S a w hk hs' => ⟨S,hk,hs'⟩) (panOK hA) hs h
 | seq x y ihx ihy =>
   intro E call Y hcall hY Q S a w hA h hs
   refine wpIn_seq (wpIn_mono (ihx hcall hY (Q := thenX (evF E.C call Y y Q) Q) (fun he v S ys h1 h2 h3 => hA he v S ys h1 h2 h3) h hs) ?_)
   rintro e a' w' ⟨S',hq,hs'⟩
   cases e with
   | normal => exact ihy hcall hY hA hq hs'
   | _ => exact ⟨S',hq,hs'⟩
 | cond c x y ihx ihy =>
   intro E call Y hcall hY Q S a w hA h hs
   have hs' := hs
   obtain ⟨G,hs'⟩ := hs'
   simp only [evF] at h
   have hv := RepF.val hs' c
   split at h
   ·rename_i ht
    rw [ht] at hv
    exact wpIn_cond_true hv.bool_inv (ihx hcall hY hA h hs)
   ·rename_i ht
    rw [ht] at hv
    exact wpIn_cond_false hv.bool_inv (ihy hcall hY hA h hs)
   ·exact h.elim
 | block id c ih =>
   intro E call Y hcall hY Q S a w hA h hs
   refine wpIn_block (wpIn_mono (ih hcall hY (Q := inBlockX id Q) (fun he v S ys h1 h2 h3 => hA he v S ys h1 h2 h3) h hs) ?_)
   rintro e a' w' ⟨S',hq,hs'⟩
   cases e with
   | exit n =>
     simp only [inBlockX] at hq
     simp only [Exit.inBlock]
     split at hq
     ·rename_i hb
      rw [if_pos (Nat.eq_of_beq_eq_true hb)]
      exact ⟨S',hq,hs'⟩
     ·rename_i hb
      rw [if_neg (Nat.ne_of_beq_eq_false hb)]
      exact ⟨S',hq,hs'⟩
   | _ => exact ⟨S',hq,hs'⟩
 | loop c ih =>
   intro E call Y hcall hY Q S a w hA h hs
   obtain ⟨α,I,μ,⟨a0,S0,hw0,hI0⟩,round⟩ := h
   refine wpIn_loop_ghost (fun n a w => ∃ x S,I x S ∧ μ x = n ∧ Sim E S a w) (μ a0) ⟨a0,S0,hI0,rfl,hs.weaken hw0⟩ ?_
   rintro n a w ⟨x,S,hI,rfl,hs⟩
   refine wpIn_mono (ih hcall hY (Q := thenX (fun S' => ∃ a' S'',Weaken S' S'' ∧ I a' S'' ∧ μ a' < μ x) Q) (fun he v S ys h1 h2 h3 => hA he v S ys h1 h2 h3) (round x S hI) hs) ?_
   rintro e a' w' ⟨S',hq,hs'⟩
   cases e with
   | normal =>
     obtain ⟨x',S'',hw,hI',hlt⟩ := hq
     exact ⟨μ x',hlt,x',S'',hI',rfl,hs'.weaken hw⟩
   | _ => exact ⟨S',hq,hs'⟩
 | exit id => intro E call Y hcall hY Q S a w hA h hs; exact wpIn_exit ⟨S,h,hs⟩
 | ret => intro E call Y hcall hY Q S a w hA h hs; exact wpIn_ret ⟨S,h,hs⟩
 | rangeFunc g ps assign body iha ihb =>
   intro E call Y hcall hY Q S a w hA h hs
   obtain ⟨G,hs⟩ := hs
   simp only [evF,forceNat_eq] at h
   have hv := RepF.val hs g
   generalize hev : a.eval g = v at hv
   split at h
   ·rename_i f captured hf
    rw [hf] at hv
    obtain ⟨fs,cs,rfl,h1,h2⟩ := fn_inv hv
    have : fs = [] := List.length_eq_zero_iff.1 h1.1
    subst this
    have h3 := mapP_rep (G := G) h2 rfl
    have hk : FV.killL (1000000 + S.pend.length) (mapP captured) = mapP captured := by
     rw [FV.killL_eq,mapP_eq]
     simp [FV.kill]
    exact range_sound hcall hY iha ihb hs hev h3.1 h3.2 (by rw [hk]; exact h)
   ·rename_i f captured hf
    rw [hf] at hv
    obtain ⟨fs,cs,rfl,h1,h2⟩ := fnF_inv hv
    have : fs = [] := List.length_eq_zero_iff.1 h1.1
    subst this
    exact range_sound hcall hY iha ihb hs hev h2.1 h2.2 h
   ·exact h.elim
 | _ => intro E call Y hcall hY Q S a w hA h hs; exact h.elim
theorem args_get {n : Nat} {vals : List Value} {args : List FV} (hlen : vals.length = args.length) (hn : args.length ≤ n) (hr : ∀ (i : Nat) (v : Value) (x : FV),vals[i]? = some v → args[i]? = some x → RepF G w v x) :
 (vals.toArray ++ Array.replicate (n - vals.toArray.size) undef).size = n ∧ ∀ i,i < n → RepF G w ((vals.toArray ++ Array.replicate (n - vals.toArray.size) undef).getD i undef) (argTmps args i) := by
 refine ⟨by simp; omega,fun i hi => ?_⟩
 have hget : (vals.toArray ++ Array.replicate (n - vals.toArray.size) undef).getD i undef = (vals[i]?).getD undef := by
  rw [Array.getD_eq_getD_getElem?]
  by_cases hlt : i < vals.length
  ·rw [Array.getElem?_append_left (by simpa using hlt)]
   simp [hlt]
  ·rw [Array.getElem?_append_right (by simp; omega),List.getElem?_eq_none (by omega)]
   have : i - vals.length < n - vals.length := by omega
   simp [this]
 rw [hget]
 unfold argTmps
 by_cases hlt : i < args.length
 ·rw [List.getElem?_eq_getElem hlt,List.getElem?_eq_getElem (by omega : i < vals.length)]
  exact hr i _ _ (List.getElem?_eq_getElem (by omega)) (List.getElem?_eq_getElem hlt)
 ·rw [List.getElem?_eq_none (by omega),List.getElem?_eq_none (by omega)]
  exact rep_undef _ _
theorem callN_ok (C : Ctx) : ∀ k,CallOK C (callN C k)
 | 0 => fun E hC Y g args K G S a w vals hs hY h => h.elim
 | k + 1 => by
   intro E hC Y g args K G S a w vals hs hY h hlen hr
   subst hC
   obtain ⟨fn,hf,hb,hname,hn,h⟩ := h
   obtain ⟨c,hc⟩ := Option.isSome_iff_exists.1 hb
   rw [hc] at h
   refine ⟨⟨fn,hf,by rw [hc]; rfl,hname⟩,?_⟩
   obtain ⟨hsz,ht⟩ := args_get (n := fn.ntmps) hlen (Nat.le_of_ble_eq_true hn) hr
   have hs1 := hs.enter (rnd := none) hsz ht (fun l h => by cases h)
   obtain ⟨ms,hms,-,-⟩ := hs.ext'.marks
   refine callsIn_of_wp_marks hf hc trivial ?_ rfl
   have := evF_sound c (E := E.push a) (callN_ok E.C k) hY (fun h => by cases h) h ⟨_,hs1⟩
   refine wpIn_mono this ?_
   have fin : ∀ {S' : ASt} {a' : Act} {w' : World},evResF E.C S' fn.results.toList (fun vs => S'.leave (K (tupF vs))) → Sim (E.push a) S' a' w' →
    LeavesInM Fence.wide 0 E.C.P fn a'.tmps (fun e w' => ∃ v x G' S',e = .returned v ∧ K x S' ∧ SimG E G' S' a w' ∧ RepF G' w' v x) a'.defers .returning w' := fun {S' a' w'} hq ⟨G',hs'⟩ => by
    obtain ⟨ms',hm',-,-⟩ := hs'.ext'.marks
    rw [hm']
    refine leavesM (E := E.push a) ms' rfl hs' rfl hm' fun G2 a2 w2 hs2 ht2 hd2 => ?_
    obtain ⟨vs,xs,r1,r2,r3,r4,r5⟩ := evResF_sound hs2 _ _ hq
    obtain ⟨f,r,hf',hK⟩ := leave_inv r2
    have hlv := SimG.leave (E := E) (a := a) (rnd := none) (ms := ms) hs2 hf' hms hs.ext'.rnd
    rw [← ht2]
    exact ⟨_,results_eq fn a2.tmps E.C.P w2 r1,_,_,G2,_,rfl,hK,hlv,tup_rep r4 r5⟩
   rintro e a' w' ⟨S',hq,hs'⟩
   cases e with
   | normal => exact fin hq hs'
   | ret => exact fin hq hs'
   | _ => exact hq.elim
theorem noYld_sound (E : Env) : YldSound E noYld := fun _ _ _ _ _ _ _ _ _ _ _ _ _ _ _ h => h.elim
theorem rep_out' {G : Ghost} {w : World} (hs : SimG E G S a w) {v : Value} {x : AV} (h : Rep G.imm w v x) : Rep (immOr E.imm0 E.w0.heap.size) w v x := rep_out hs h
theorem cTo {C : Ctx} {f : FuncId} {fn : Func} {c : Code} {args : List AV} {R : Ret → Prop} (hf : C.P.funcs[f]? = some fn) (hb : fn.body = some c) (hname : (fn.name == "runtime.NumGoroutine") = false)
 (hlen : args.length ≤ fn.ntmps) (h : ev C c (retPost C fn.results.toList R) (initS fn.ntmps args)) (hpan : ∀ v,¬ C.pan v := by intro _ h; exact h) : CallsTo C f args R := by
 refine ⟨⟨fn,hf,by rw [hb]; rfl,hname⟩,fun imm w vs hJ hn hi hl hr => ?_⟩
 let E : Env := { C := C,w0 := w,imm0 := imm,hJ := hJ.1,hn := hn,rnd := none,susp := [],loops := [],fixed := [] }
 have hs : SimG E ⟨imm,fun _ => none,fun _ => none,fun _ => none,fun _ => none,fun _ => none,fun _ => none⟩ (initS fn.ntmps args) { tmps := vs.toArray ++ Array.replicate (fn.ntmps - vs.toArray.size) undef,defers := [] } w := by
  have hsz : (vs.toArray ++ Array.replicate (fn.ntmps - vs.toArray.size) undef).size = fn.ntmps := by simp; omega
  refine ⟨⟨rfl,rfl,rfl,Nat.le_refl _,fun _ _ _ => rfl,fun k _ _ _ hk => by simp [E] at hk⟩,hsz,⟨⟨(fun o l h => by cases h),(fun o b h => by cases h),(fun o o' b h => by cases h),(fun q x h => by cases h),(fun q r h => by cases h),(fun q q' r h => by cases h),(fun o o' b h => by cases h)⟩,rfl,fun i vs fr h => by simp [E] at h,rfl,fun i k r st h => by simp [E] at h,fun i j k r r' h => by simp [E] at h,fun i k r h => by simp [E] at h,fun l h => by simp [E] at h,⟨[],rfl,by simp [E],by simp [E]⟩,hJ.2⟩,⟨(fun o bs h => by cases h),(fun o r h => by cases h),(fun o r h => by cases h)⟩,fun b o h => .inl h,hi,fun i hi' => ?_,(fun o cells ho => by cases ho),(fun o b h => by cases h),(fun o o' b h => by cases h),(fun o t b r h => by cases h),(fun t b s e T h => by cases h),(fun t t' b r r' h => by cases h)⟩
  have hi'' : i < fn.ntmps := hi'
  have hget : (vs.toArray ++ Array.replicate (fn.ntmps - vs.toArray.size) undef).getD i undef = (vs[i]?).getD undef := by
   rw [Array.getD_eq_getD_getElem?]
   by_cases hlt : i < vs.length
   ·rw [Array.getElem?_append_left (by simpa using hlt)]
    simp [hlt]
   ·rw [Array.getElem?_append_right (by simp; omega),List.getElem?_eq_none (by omega)]
    have : i - vs.length < fn.ntmps - vs.length := by omega
    simp [this]
  rw [hget]
  simp only [initS]
  by_cases hlt : i < args.length
  ·rw [List.getElem?_eq_getElem hlt,List.getElem?_eq_getElem (by omega : i < vs.length)]
   exact .p _ _ (hr i _ _ (List.getElem?_eq_getElem (by omega)) (List.getElem?_eq_getElem hlt))
  ·rw [List.getElem?_eq_none (by omega),List.getElem?_eq_none (by omega)]
   exact rep_undef _ _
 refine (callsIn_wide (n := 0)).1 (callsIn_of_wp_marks hf hb trivial ?_ rfl)
 refine wpIn_mono (evF_sound c (E := E) (callN_ok C 6) (noYld_sound E) (fun _ v _ _ h => absurd h (hpan v)) h ⟨_,hs⟩) ?_
 have fin : ∀ {S' : ASt} {a' : Act} {w' : World},evReturn C fn.results.toList R S' → Sim E S' a' w' →
  LeavesInM Fence.wide 0 C.P fn a'.tmps (fun e w' => ∃ v r,e = .returned v ∧ R r ∧ RetOK imm w.heap.size w' v r ∧ Below w.heap.size w w') a'.defers .returning w' := fun {S' a' w'} hq ⟨G',hs'⟩ => by
  obtain ⟨ms',hm',-,-⟩ := hs'.ext'.marks
  rw [hm']
  refine leavesM (E := E) ms' rfl hs' rfl hm' fun G2 a2 w2 hs2 ht2 hd2 => ?_
  obtain ⟨v,r,h1,h2,h3⟩ := evReturn_sound hs2 hq
  rw [← ht2]
  exact ⟨v,h1,v,r,rfl,h2,h3,hs2.kept.os,hs2.kept.tape,hs2.kept.output,hs2.kept.size,fun k hk => hs2.kept.block k hk (by simp [E])⟩
 rintro e a' w' ⟨S',hq,hs'⟩
 cases e with
 | normal => exact fin hq hs'
 | ret => exact fin hq hs'
 | _ => exact hq.elim
theorem objTo_of_ev {C : Ctx} {f : FuncId} {fn : Func} {c : Code} {cells args : List AV} {R : AV → List AV → Prop} (hf : C.P.funcs[f]? = some fn) (hb : fn.body = some c) (hname : (fn.name == "runtime.NumGoroutine") = false)
 (hlen : args.length + 1 ≤ fn.ntmps) (h : ev C c (retPostO C fn.results.toList cells.length R) (initO fn.ntmps cells args)) (hpan : ∀ v,¬ C.pan v := by intro _ h; exact h) : ObjTo C f cells args R := by
 refine ⟨⟨fn,hf,by rw [hb]; rfl,hname⟩,fun imm w b vs hJ hn hi hbn hblt hbi hbc hl hr => ?_⟩
 let E : Env := { C := C,w0 := w,imm0 := imm,hJ := hJ.1,hn := hn,rnd := none,susp := [],loops := [],fixed := [],own := [b],hown := fun k hk => by simp at hk; subst hk; exact ⟨hbn,hblt,fun o => (hbi o).1⟩ }
 let G0 : Ghost := ⟨imm,fun o => if o = 999999 then some b else none,fun _ => none,fun _ => none,fun _ => none,fun _ => none,fun _ => none⟩
 have hrep : ∀ (i : Nat) (v : Value) (x : FV),(Value.pointer (some ⟨b,0,none⟩) :: vs)[i]? = some v → (FV.ptr 999999 0 :: mapP args)[i]? = some x → RepF G0 w v x := fun i v x h1 h2 => by
  cases i with
  | zero => simp at h1 h2; subst h1; subst h2; exact .ptr _ _ _ rfl
  | succ i =>
    simp only [List.getElem?_cons_succ,mapP_eq,List.getElem?_map] at h1 h2
    cases hq : args[i]? with
    | none => simp [hq] at h2
    | some y => simp [hq] at h2; subst h2; exact .p _ _ (hr i v y h1 hq)
 obtain ⟨hsz,ht⟩ := args_get (n := fn.ntmps) (vals := Value.pointer (some ⟨b,0,none⟩) :: vs) (args := FV.ptr 999999 0 :: mapP args) (by simp [mapP_eq,hl]) (by simp [mapP_eq]; omega) hrep
 have hs : SimG E G0 (initO fn.ntmps cells args) { tmps := (Value.pointer (some ⟨b,0,none⟩) :: vs).toArray ++ Array.replicate (fn.ntmps - (Value.pointer (some ⟨b,0,none⟩) :: vs).toArray.size) undef,defers := [] } w := by
  refine ⟨⟨rfl,rfl,rfl,Nat.le_refl _,fun _ _ _ => rfl,fun k cs T fr _ q => ⟨cs,q,rfl⟩⟩,hsz,⟨⟨(fun o l h => by cases h),(fun o b h => by cases h),(fun o o' b h => by cases h),(fun q x h => by cases h),(fun q r h => by cases h),(fun q q' r h => by cases h),(fun o o' b h => by cases h)⟩,rfl,fun i vs fr h => by simp [E] at h,rfl,fun i k r st h => by simp [E] at h,fun i j k r r' h => by simp [E] at h,fun i k r h => by simp [E] at h,fun l h => by simp [E] at h,⟨[],rfl,by simp [E],by simp [E]⟩,hJ.2⟩,⟨(fun o bs h => by cases h),(fun o r h => by cases h),(fun o r h => by cases h)⟩,fun b o h => .inl h,hi,fun i hi' => ht i hi',(fun o cs ho => ?_),(fun o b2 h => ?_),(fun o o' b2 h h' => ?_),(fun o t b r _ h => by cases h),(fun t b s e T h => by cases h),(fun t t' b r r' h => by cases h)⟩
  ·simp only [initO,getObj] at ho
   split at ho
   ·rename_i hq
    obtain rfl := Nat.eq_of_beq_eq_true hq
    obtain rfl := Option.some.inj ho
    refine ⟨b,rfl,fun i x hx => ?_⟩
    rw [mapP_eq,List.getElem?_map] at hx
    cases hq : cells[i]? with
    | none => simp [hq] at hx
    | some y =>
      simp [hq] at hx
      subst hx
      obtain ⟨c,h1,h2⟩ := hbc i y hq
      exact ⟨c,h1,.p _ _ h2⟩
   ·cases ho
  ·simp only [G0] at h
   split at h
   ·rename_i e
    obtain rfl := Option.some.inj h
    exact ⟨hblt,.inr ⟨e,by simp [E]⟩,hbi⟩
   ·cases h
  ·simp only [G0] at h h'
   split at h <;> split at h'
   ·rename_i e1 e2; rw [e1,e2]
   all_goals (first | (cases h'; done) | (cases h; done))
 refine (callsIn_wide (n := 0)).1 (callsIn_of_wp_marks hf hb trivial ?_ rfl)
 refine wpIn_mono (evF_sound c (E := E) (callN_ok C 6) (noYld_sound E) (fun _ v _ _ h => absurd h (hpan v)) h ⟨_,hs⟩) ?_
 have fin : ∀ {S' : ASt} {a' : Act} {w' : World},evReturnO C fn.results.toList cells.length R S' → Sim E S' a' w' →
  LeavesInM Fence.wide 0 C.P fn a'.tmps (fun e w' => ∃ v r cells',e = .returned v ∧ R r cells' ∧ cells'.length = cells.length ∧ Rep (immOr imm w.heap.size) w' v r ∧
   (∀ (i : Nat) (x : AV),cells'[i]? = some x → ∃ c,w'.cell? ⟨b,i,none⟩ = some c ∧ Rep (immOr imm w.heap.size) w' c x) ∧
   w'.os = w.os ∧ w'.tape = w.tape ∧ w'.output = w.output ∧ w.heap.size ≤ w'.heap.size ∧ (∀ k,k < w.heap.size → k ≠ b → w'.heap[k]? = w.heap[k]?) ∧
   (∀ cs T fr,w.heap[b]? = some (.cells cs T fr) → ∃ cs',w'.heap[b]? = some (.cells cs' T fr) ∧ cs'.size = cs.size)) a'.defers .returning w' := fun {S' a' w'} hq ⟨G',hs'⟩ => by
  obtain ⟨ms',hm',-,-⟩ := hs'.ext'.marks
  rw [hm']
  refine leavesM (E := E) ms' rfl hs' rfl hm' fun G2 a2 w2 hs2 ht2 hd2 => ?_
  unfold evReturnO at hq
  obtain ⟨vs,xs,r1,r2,r3,r4,r5⟩ := evResF_sound hs2 _ _ hq
  split at r2
  ·rename_i r cs hr2 ho
   split at r2
   ·rename_i ys hys
    obtain ⟨hn,r2⟩ := r2
    rw [← ht2]
    obtain ⟨b2,g1,g2⟩ := hs2.objs 999999 cs ho
    obtain ⟨g3,g4⟩ := FV.toAVs_get hys
    obtain rfl : b2 = b := Env.mine_own (E := E) (hs2.locs _ _ g1).2.1 rfl
    refine ⟨_,results_eq fn a2.tmps E.C.P w2 r1,_,r,ys,rfl,r2,Nat.eq_of_beq_eq_true hn,rep_out' hs2 ((tup_rep r4 r5).toAV hr2),fun i x hx => ?_,hs2.kept.os,hs2.kept.tape,hs2.kept.output,hs2.kept.size,fun k hk hkb => hs2.kept.block k hk (by simpa [E] using hkb),fun c1 T fr h => hs2.kept.shape _ c1 T fr (by simp [E]) h⟩
    obtain ⟨y,hy,hxy⟩ := g4 i x hx
    obtain ⟨c,q1,q2⟩ := g2 i y hy
    exact ⟨c,q1,rep_out' hs2 (q2.toAV hxy)⟩
   ·exact r2.elim
  ·exact r2.elim
 rintro e a' w' ⟨S',hq,hs'⟩
 cases e with
 | normal => exact fin hq hs'
 | ret => exact fin hq hs'
 | _ => exact hq.elim
theorem objToP_of_ev {C : Ctx} {f : FuncId} {fn : Func} {c : Code} {cells : List AV} {args : List FV} {R : AV → List AV → Prop} (hf : C.P.funcs[f]? = some fn) (hb : fn.body = some c) (hname : (fn.name == "runtime.NumGoroutine") = false)
 (hlen : args.length + 1 ≤ fn.ntmps) (hpl : C.plen = cells.length) (h : ev C c (retPostP C fn.results.toList cells.length R) (initP fn.ntmps cells args)) : ObjToP C f cells args R C.pan := by
 refine ⟨⟨fn,hf,by rw [hb]; rfl,hname⟩,fun imm w b vs hJ hn hi hbn hblt hbi hbc hl hr => ?_⟩
 let E : Env := { C := C,w0 := w,imm0 := imm,hJ := hJ.1,hn := hn,rnd := none,susp := [],loops := [],fixed := [],own := [b],hown := fun k hk => by simp at hk; subst hk; exact ⟨hbn,hblt,fun o => (hbi o).1⟩ }
 have hrep : ∀ (i : Nat) (v : Value) (x : FV),(Value.pointer (some ⟨b,0,none⟩) :: vs)[i]? = some v → (FV.ptr 999999 0 :: args)[i]? = some x → RepF (lent imm b) w v x := fun i v x h1 h2 => by
  cases i with
  | zero => simp at h1 h2; subst h1; subst h2; exact .ptr _ _ _ rfl
  | succ i =>
    simp only [List.getElem?_cons_succ] at h1 h2
    exact hr i v x h1 h2
 obtain ⟨hsz,ht⟩ := args_get (n := fn.ntmps) (vals := Value.pointer (some ⟨b,0,none⟩) :: vs) (args := FV.ptr 999999 0 :: args) (by simp [hl]) (by simp; omega) hrep
 have hs : SimG E (lent imm b) (initP fn.ntmps cells args) { tmps := (Value.pointer (some ⟨b,0,none⟩) :: vs).toArray ++ Array.replicate (fn.ntmps - (Value.pointer (some ⟨b,0,none⟩) :: vs).toArray.size) undef,defers := [] } w := by
  refine ⟨⟨rfl,rfl,rfl,Nat.le_refl _,fun _ _ _ => rfl,fun k cs T fr _ q => ⟨cs,q,rfl⟩⟩,hsz,⟨⟨(fun o l h => by cases h),(fun o b h => by cases h),(fun o o' b h => by cases h),(fun q x h => by cases h),(fun q r h => by cases h),(fun q q' r h => by cases h),(fun o o' b h => by cases h)⟩,rfl,fun i vs fr h => by simp [E] at h,rfl,fun i k r st h => by simp [E] at h,fun i j k r r' h => by simp [E] at h,fun i k r h => by simp [E] at h,fun l h => by simp [E] at h,⟨[],rfl,by simp [E],by simp [E]⟩,hJ.2⟩,⟨(fun o bs h => by cases h),(fun o r h => by cases h),(fun o r h => by cases h)⟩,fun b o h => .inl h,hi,fun i hi' => ht i hi',(fun o cs ho => ?_),(fun o b2 h => ?_),(fun o o' b2 h h' => ?_),(fun o t b r _ h => by cases h),(fun t b s e T h => by cases h),(fun t t' b r r' h => by cases h)⟩
  ·simp only [initP,getObj] at ho
   split at ho
   ·rename_i hq
    obtain rfl := Nat.eq_of_beq_eq_true hq
    obtain rfl := Option.some.inj ho
    refine ⟨b,rfl,fun i x hx => ?_⟩
    rw [mapP_eq,List.getElem?_map] at hx
    cases hq : cells[i]? with
    | none => simp [hq] at hx
    | some y =>
      simp [hq] at hx
      subst hx
      obtain ⟨c,h1,h2⟩ := hbc i y hq
      exact ⟨c,h1,.p _ _ h2⟩
   ·cases ho
  ·simp only [lent] at h
   split at h
   ·rename_i e
    obtain rfl := Option.some.inj h
    exact ⟨hblt,.inr ⟨e,by simp [E]⟩,hbi⟩
   ·cases h
  ·simp only [lent] at h h'
   split at h <;> split at h'
   ·rename_i e1 e2; rw [e1,e2]
   all_goals (first | (cases h'; done) | (cases h; done))
 refine (callsIn_wide (n := 0)).1 (callsIn_of_wp_marks hf hb trivial ?_ rfl)
 refine wpIn_mono (evF_sound c (E := E) (callN_ok C 6) (noYld_sound E) (fun _ v S ys h1 h2 h3 => ⟨v,rfl,h1,ys,h2,h3.trans hpl⟩) h ⟨_,hs⟩) ?_
 have frame : ∀ {G2 : Ghost} {S2 : ASt} {a2 : Act} {w2 : World},SimG E G2 S2 a2 w2 → ∀ {cs : List FV} {ys : List AV},getObj S2.objs 999999 = some cs → FV.toAVs cs = some ys →
  (∀ (i : Nat) (x : AV),ys[i]? = some x → ∃ c,w2.cell? ⟨b,i,none⟩ = some c ∧ Rep (immOr imm w.heap.size) w2 c x) ∧
  w2.os = w.os ∧ w2.tape = w.tape ∧ w2.output = w.output ∧ w.heap.size ≤ w2.heap.size ∧ (∀ k,k < w.heap.size → k ≠ b → w2.heap[k]? = w.heap[k]?) ∧
  (∀ cs T fr,w.heap[b]? = some (.cells cs T fr) → ∃ cs',w2.heap[b]? = some (.cells cs' T fr) ∧ cs'.size = cs.size) := fun {G2 S2 a2 w2} hs2 {cs ys} ho hys => by
  obtain ⟨b2,g1,g2⟩ := hs2.objs 999999 cs ho
  obtain ⟨g3,g4⟩ := FV.toAVs_get hys
  obtain rfl : b2 = b := Env.mine_own (E := E) (hs2.locs _ _ g1).2.1 rfl
  refine ⟨fun i x hx => ?_,hs2.kept.os,hs2.kept.tape,hs2.kept.output,hs2.kept.size,fun k hk hkb => hs2.kept.block k hk (by simpa [E] using hkb),fun c1 T fr h => hs2.kept.shape _ c1 T fr (by simp [E]) h⟩
  obtain ⟨y,hy,hxy⟩ := g4 i x hx
  obtain ⟨c,q1,q2⟩ := g2 i y hy
  exact ⟨c,q1,rep_out' hs2 (q2.toAV hxy)⟩
 have fin : ∀ {S' : ASt} {a' : Act} {w' : World},evReturnO C fn.results.toList cells.length R S' → Sim E S' a' w' →
  LeavesInM Fence.wide 0 C.P fn a'.tmps (fun e w' => ∃ cells' : List AV,cells'.length = cells.length ∧
   (∀ (i : Nat) (x : AV),cells'[i]? = some x → ∃ c,w'.cell? ⟨b,i,none⟩ = some c ∧ Rep (immOr imm w.heap.size) w' c x) ∧
   w'.os = w.os ∧ w'.tape = w.tape ∧ w'.output = w.output ∧ w.heap.size ≤ w'.heap.size ∧ (∀ k,k < w.heap.size → k ≠ b → w'.heap[k]? = w.heap[k]?) ∧
   (∀ cs T fr,w.heap[b]? = some (.cells cs T fr) → ∃ cs',w'.heap[b]? = some (.cells cs' T fr) ∧ cs'.size = cs.size) ∧
   ((∃ v r,e = .returned v ∧ R r cells' ∧ Rep (immOr imm w.heap.size) w' v r) ∨ ∃ v,e = .panicked [{ v := v,recovered := false }] ∧ C.pan v)) a'.defers .returning w' := fun {S' a' w'} hq ⟨G',hs'⟩ => by
  obtain ⟨ms',hm',-,-⟩ := hs'.ext'.marks
  rw [hm']
  refine leavesM (E := E) ms' rfl hs' rfl hm' fun G2 a2 w2 hs2 ht2 hd2 => ?_
  unfold evReturnO at hq
  obtain ⟨vs,xs,r1,r2,r3,r4,r5⟩ := evResF_sound hs2 _ _ hq
  split at r2
  ·rename_i r cs hr2 ho
   split at r2
   ·rename_i ys hys
    obtain ⟨hn,r2⟩ := r2
    rw [← ht2]
    obtain ⟨f1,f2,f3,f4,f5,f6,f7⟩ := frame hs2 ho hys
    exact ⟨_,results_eq fn a2.tmps E.C.P w2 r1,ys,Nat.eq_of_beq_eq_true hn,f1,f2,f3,f4,f5,f6,f7,.inl ⟨_,r,rfl,r2,rep_out' hs2 ((tup_rep r4 r5).toAV hr2)⟩⟩
   ·exact r2.elim
  ·exact r2.elim
 rintro e a' w' ⟨S',hq,hs'⟩
 cases e with
 | normal => exact fin hq hs'
 | ret => exact fin hq hs'
 | panic ch =>
   obtain ⟨v,rfl,hX,ys,ho,hlen'⟩ := hq
   obtain ⟨G',hs'⟩ := hs'
   obtain ⟨ms',hm',-,-⟩ := hs'.ext'.marks
   show LeavesInM Fence.wide 0 C.P fn a'.tmps _ a'.defers _ w'
   rw [hm']
   refine leavesMP (E := E) ms' rfl hs' hm' fun G2 a2 w2 hs2 => ?_
   obtain ⟨f1,f2,f3,f4,f5,f6,f7⟩ := frame hs2 ho (ys := ys) (by
    clear ho hlen'
    induction ys with
    | nil => rfl
    | cons y ys ih => simp [mapP,FV.toAVs,FV.toAV,ih])
   exact ⟨ys,hlen',f1,f2,f3,f4,f5,f6,f7,.inr ⟨v,rfl,hX⟩⟩
 | _ => exact hq.elim
end
end Qv

end

section
namespace Qv
open Go Go.RowKit
section
variable {E : Env} {G : Ghost} {S : ASt} {a : Act} {w : World}
theorem CallsTo.mono {C : Ctx} {f : FuncId} {args : List AV} {R R' : Ret → Prop} (h : CallsTo C f args R) (hr : ∀ r,R r → R' r) : CallsTo C f args R' :=
 ⟨h.1,fun imm w vs a b c d e => (h.2 imm w vs a b c d e).mono fun _ _ ⟨v,r,h1,h2,h3⟩ => ⟨v,r,h1,hr _ h2,h3⟩⟩
def lookF : List (Nat × FV) → Nat → FV
 | [],_ => .junk
 | (j,v) :: r,i => match Nat.beq i j with
   | true => v
   | false => lookF r i
def mkFr : List (Nat × Nat × List (Nat × FV)) → List Fr
 | [] => []
 | (n,off,rel) :: r => ⟨n,off,lookF rel⟩ :: mkFr r
def mkS (n off : Nat) (rel : List (Nat × FV)) (objs : List (Nat × List FV)) (susp : List (Nat × Nat × List (Nat × FV))) (pend : List PSt) (blds : List (Nat × List UInt8) := []) : ASt :=
 { n := n,off := off,tmps := lookF rel,objs := objs,susp := mkFr susp,pend := pend,blds := blds }
def HasT (f : Nat → FV) : List (Nat × FV) → Prop
 | [] => True
 | (j,v) :: r => Weak (f j) v ∧ HasT f r
def HasF : List Fr → List (Nat × Nat × List (Nat × FV)) → Prop
 | [],[] => True
 | f :: fs,(n,off,rel) :: r => (n,off) = (f.n,f.off) ∧ HasT f.tmps rel ∧ HasF fs r
 | _,_ => False
def HasO (objs : List (Nat × List FV)) : List (Nat × List FV) → Prop
 | [] => True
 | (o,ys) :: r => (∃ xs,Qv.getObj objs o = some xs ∧ xs.length = ys.length ∧ ∀ (i : Nat) (x y : FV),xs[i]? = some x → ys[i]? = some y → Weak x y) ∧ HasO objs r
theorem weak_look {f : Nat → FV} : ∀ {rel : List (Nat × FV)},HasT f rel → ∀ i,Weak (f i) (lookF rel i)
 | [],_,_ => Weak.junk _
 | (j,v) :: rel,h,i => by
   simp only [lookF]
   split
   ·rename_i hb
    obtain rfl := Nat.eq_of_beq_eq_true hb
    exact h.1
   ·exact weak_look h.2 i
theorem weak_fr : ∀ {fs : List Fr} {l : List (Nat × Nat × List (Nat × FV))},HasF fs l → (mkFr l).length = fs.length ∧ ∀ (i : Nat) (f f' : Fr),fs[i]? = some f → (mkFr l)[i]? = some f' → f'.n = f.n ∧ f'.off = f.off ∧ ∀ j,Weak (f.tmps j) (f'.tmps j)
 | [],[],_ => ⟨rfl,by simp⟩
 | f :: fs,(n,off,rel) :: r,h => by
   obtain ⟨h1,h2,h3⟩ := h
   obtain ⟨h4,h5⟩ := weak_fr h3
   injection h1 with e1 e2
   refine ⟨by simp [mkFr,h4],fun i g g' hg hg' => ?_⟩
   cases i with
   | zero =>
     simp [mkFr] at hg hg'
     subst hg; subst hg'
     exact ⟨e1,e2,weak_look h2⟩
   | succ i =>
     simp [mkFr] at hg hg'
     exact h5 i g g' hg hg'
 | [],_ :: _,h => h.elim
 | _ :: _,[],h => h.elim
def HasB (l : List (Nat × List UInt8)) : List (Nat × List UInt8) → Prop
 | [] => True
 | (o,bs) :: r => getB l o = some bs ∧ HasB l r
theorem getB_has {l : List (Nat × List UInt8)} {o : Nat} {bs : List UInt8} : ∀ {r : List (Nat × List UInt8)},HasB l r → getB r o = some bs → getB l o = some bs
 | [],_,h => by cases h
 | (u,c) :: r,hb,h => by
   simp only [getB] at h
   split at h
   ·rename_i hu
    obtain rfl := Nat.eq_of_beq_eq_true hu
    obtain rfl := Option.some.inj h
    exact hb.1
   ·exact getB_has hb.2 h
theorem getObj_has {l : List (Nat × List FV)} {o : Nat} {ys : List FV} : ∀ {r : List (Nat × List FV)},HasO l r → Qv.getObj r o = some ys →
 ∃ xs,Qv.getObj l o = some xs ∧ xs.length = ys.length ∧ ∀ (i : Nat) (x y : FV),xs[i]? = some x → ys[i]? = some y → Weak x y
 | [],_,h => by cases h
 | (u,c) :: r,hb,h => by
   simp only [Qv.getObj] at h
   split at h
   ·rename_i hu
    obtain rfl := Nat.eq_of_beq_eq_true hu
    obtain rfl := Option.some.inj h
    exact hb.1
   ·exact getObj_has hb.2 h
def mkW (n off : Nat) (rel : List (Nat × FV)) (objs : List (Nat × List FV)) (susp : List (Nat × Nat × List (Nat × FV))) (pend : List PSt) (blds : List (Nat × List UInt8)) (maps : List (Nat × List (AV × FV))) (its : List (Nat × (Option (AV × AV) × List (AV × AV)))) : ASt :=
 { n := n,off := off,tmps := lookF rel,objs := objs,susp := mkFr susp,pend := pend,blds := blds,maps := maps,its := its }
def HasM (maps : List (Nat × List (AV × FV))) : List (Nat × List (AV × FV)) → Prop
 | [] => True
 | (o,l') :: r => (∃ l,getM maps o = some l ∧ l.length = l'.length ∧ ∀ (i : Nat) (p p' : AV × FV),l[i]? = some p → l'[i]? = some p' → p'.1 = p.1 ∧ Weak p.2 p'.2) ∧ HasM maps r
def HasI (its : List (Nat × (Option (AV × AV) × List (AV × AV)))) : List (Nat × (Option (AV × AV) × List (AV × AV))) → Prop
 | [] => True
 | (q,x) :: r => getM its q = some x ∧ HasI its r
theorem getM_has {l : List (Nat × List (AV × FV))} {o : Nat} {ys : List (AV × FV)} : ∀ {r : List (Nat × List (AV × FV))},HasM l r → getM r o = some ys →
 ∃ xs,getM l o = some xs ∧ xs.length = ys.length ∧ ∀ (i : Nat) (p p' : AV × FV),xs[i]? = some p → ys[i]? = some p' → p'.1 = p.1 ∧ Weak p.2 p'.2
 | [],_,h => by cases h
 | (u,c) :: r,hb,h => by
   simp only [getM] at h
   split at h
   ·rename_i hu
    obtain rfl := Nat.eq_of_beq_eq_true hu
    obtain rfl := Option.some.inj h
    exact hb.1
   ·exact getM_has hb.2 h
theorem getI_has {l : List (Nat × (Option (AV × AV) × List (AV × AV)))} {q : Nat} {x : Option (AV × AV) × List (AV × AV)} : ∀ {r : List (Nat × (Option (AV × AV) × List (AV × AV)))},HasI l r → getM r q = some x → getM l q = some x
 | [],_,h => by cases h
 | (u,c) :: r,hb,h => by
   simp only [getM] at h
   split at h
   ·rename_i hu
    obtain rfl := Nat.eq_of_beq_eq_true hu
    obtain rfl := Option.some.inj h
    exact hb.1
   ·exact getI_has hb.2 h
theorem weaken_mkW {n off : Nat} {rel : List (Nat × FV)} {objs : List (Nat × List FV)} {susp : List (Nat × Nat × List (Nat × FV))} {pend : List PSt} {blds : List (Nat × List UInt8)} {maps : List (Nat × List (AV × FV))} {its : List (Nat × (Option (AV × AV) × List (AV × AV)))}
 (hn : (n,off,pend) = (S.n,S.off,S.pend)) (h1 : HasT S.tmps rel) (h2 : HasO S.objs objs) (h3 : HasF S.susp susp) (h4 : HasB S.blds blds) (h5 : HasM S.maps maps) (h6 : HasI S.its its) :
 Weaken S (mkW n off rel objs susp pend blds maps its) := by
 injection hn with e1 e2
 injection e2 with e2 e3
 refine ⟨e1,e2,e3,fun o bs q => ⟨getB_has h4 q,fun q2 => ?_⟩,weak_fr h3,fun i => weak_look h1 i,fun o ys ho => getObj_has h2 ho,fun o l hl => getM_has h5 hl,fun q x hx => getI_has h6 hx⟩
 cases hq : Qv.getObj objs o with
 | none => exact hq
 | some ys =>
   obtain ⟨xs,h5,-⟩ := getObj_has h2 hq
   rw [q2] at h5
   cases h5
theorem weaken_mk {n off : Nat} {rel : List (Nat × FV)} {objs : List (Nat × List FV)} {susp : List (Nat × Nat × List (Nat × FV))} {pend : List PSt} {blds : List (Nat × List UInt8)} (hn : (n,off,pend) = (S.n,S.off,S.pend)) (h1 : HasT S.tmps rel) (h2 : HasO S.objs objs) (h3 : HasF S.susp susp) (h4 : HasB S.blds blds) :
 Weaken S (mkS n off rel objs susp pend blds) :=
 weaken_mkW (maps := []) (its := []) hn h1 h2 h3 h4 trivial trivial
theorem loopW {C : Ctx} {call : CallH} {Y : Yld} {c : Code} {Q : Exit → ASt → Prop} {α : Type} (n off : Nat) (rel : α → List (Nat × FV)) (objs : α → List (Nat × List FV)) (susp : α → List (Nat × Nat × List (Nat × FV))) (pend : List PSt) (blds : α → List (Nat × List UInt8)) (maps : α → List (Nat × List (AV × FV))) (its : α → List (Nat × (Option (AV × AV) × List (AV × AV))))
 (Inv : α → Prop) (μ : α → Nat) (x0 : α)
 (h0 : Inv x0) (hn : (n,off,pend) = (S.n,S.off,S.pend)) (h1 : HasT S.tmps (rel x0)) (h2 : HasO S.objs (objs x0)) (h3 : HasF S.susp (susp x0)) (h4 : HasB S.blds (blds x0)) (h5 : HasM S.maps (maps x0)) (h6 : HasI S.its (its x0))
 (round : ∀ x,Inv x → evF C call Y c (thenX (fun S' => ∃ x' S'',Weaken S' S'' ∧ (Inv x' ∧ S'' = mkW n off (rel x') (objs x') (susp x') pend (blds x') (maps x') (its x')) ∧ μ x' < μ x) Q) (mkW n off (rel x) (objs x) (susp x) pend (blds x) (maps x) (its x))) :
 ∃ (α : Type) (I : α → ASt → Prop) (μ : α → Nat),(∃ a S',Weaken S S' ∧ I a S') ∧
   ∀ a S,I a S → evF C call Y c (thenX (fun S' => ∃ a' S'',Weaken S' S'' ∧ I a' S'' ∧ μ a' < μ a) Q) S :=
 ⟨α,fun x S => Inv x ∧ S = mkW n off (rel x) (objs x) (susp x) pend (blds x) (maps x) (its x),μ,⟨x0,_,weaken_mkW hn h1 h2 h3 h4 h5 h6,h0,rfl⟩,fun x S ⟨hI,hS⟩ => hS ▸ round x hI⟩
theorem roundW {S' : ASt} {α : Type} {n off : Nat} {rel : α → List (Nat × FV)} {objs : α → List (Nat × List FV)} {susp : α → List (Nat × Nat × List (Nat × FV))} {pend : List PSt} {blds : α → List (Nat × List UInt8)} {maps : α → List (Nat × List (AV × FV))} {its : α → List (Nat × (Option (AV × AV) × List (AV × AV)))} {Inv : α → Prop} {μ : α → Nat} {x : α} (x' : α)
 (h0 : Inv x') (hμ : μ x' < μ x) (hn : (n,off,pend) = (S'.n,S'.off,S'.pend)) (h1 : HasT S'.tmps (rel x')) (h2 : HasO S'.objs (objs x')) (h3 : HasF S'.susp (susp x')) (h4 : HasB S'.blds (blds x')) (h5 : HasM S'.maps (maps x')) (h6 : HasI S'.its (its x')) :
 ∃ x' S'',Weaken S' S'' ∧ (Inv x' ∧ S'' = mkW n off (rel x') (objs x') (susp x') pend (blds x') (maps x') (its x')) ∧ μ x' < μ x :=
 ⟨x',_,weaken_mkW hn h1 h2 h3 h4 h5 h6,⟨h0,rfl⟩,hμ⟩
theorem hasO_refl (objs : List (Nat × List FV)) (xs : List FV) (o : Nat) (h : Qv.getObj objs o = some xs) :
 ∃ ys,Qv.getObj objs o = some ys ∧ ys.length = xs.length ∧ ∀ (i : Nat) (x y : FV),ys[i]? = some x → xs[i]? = some y → Weak x y := getObj_keep h
theorem hO1 {objs : List (Nat × List FV)} {o : Nat} {xs : List FV} (h : Qv.getObj objs o = some xs) : ∃ ys,Qv.getObj objs o = some ys ∧ ys.length = xs.length ∧ ∀ (i : Nat) (x y : FV),ys[i]? = some x → xs[i]? = some y → Weak x y :=
 hasO_refl objs xs o h
theorem loopG {C : Ctx} {call : CallH} {Y : Yld} {c : Code} {Q : Exit → ASt → Prop} {α : Type} (n off : Nat) (rel : α → List (Nat × FV)) (objs : α → List (Nat × List FV)) (susp : α → List (Nat × Nat × List (Nat × FV))) (pend : List PSt) (blds : α → List (Nat × List UInt8)) (Inv : α → Prop) (μ : α → Nat) (x0 : α)
 (h0 : Inv x0) (hn : (n,off,pend) = (S.n,S.off,S.pend)) (h1 : HasT S.tmps (rel x0)) (h2 : HasO S.objs (objs x0)) (h3 : HasF S.susp (susp x0)) (h4 : HasB S.blds (blds x0))
 (round : ∀ x,Inv x → evF C call Y c (thenX (fun S' => ∃ x' S'',Weaken S' S'' ∧ (Inv x' ∧ S'' = mkS n off (rel x') (objs x') (susp x') pend (blds x')) ∧ μ x' < μ x) Q) (mkS n off (rel x) (objs x) (susp x) pend (blds x))) :
 ∃ (α : Type) (I : α → ASt → Prop) (μ : α → Nat),(∃ a S',Weaken S S' ∧ I a S') ∧
   ∀ a S,I a S → evF C call Y c (thenX (fun S' => ∃ a' S'',Weaken S' S'' ∧ I a' S'' ∧ μ a' < μ a) Q) S :=
 ⟨α,fun x S => Inv x ∧ S = mkS n off (rel x) (objs x) (susp x) pend (blds x),μ,⟨x0,_,weaken_mk hn h1 h2 h3 h4,h0,rfl⟩,fun x S ⟨hI,hS⟩ => hS ▸ round x hI⟩
theorem loopB {C : Ctx} {call : CallH} {Y : Yld} {c : Code} {Q : Exit → ASt → Prop} {α : Type} (n : Nat) (rel : α → List (Nat × FV)) (objs : α → List (Nat × List FV)) (blds : α → List (Nat × List UInt8)) (Inv : α → Prop) (μ : α → Nat) (x0 : α)
 (h0 : Inv x0) (hn : (n,0,[],[]) = (S.n,S.off,S.pend,S.susp)) (h1 : HasT S.tmps (rel x0)) (h2 : HasO S.objs (objs x0)) (h4 : HasB S.blds (blds x0))
 (round : ∀ x,Inv x → evF C call Y c (thenX (fun S' => ∃ x' S'',Weaken S' S'' ∧ (Inv x' ∧ S'' = mkS n 0 (rel x') (objs x') [] [] (blds x')) ∧ μ x' < μ x) Q) (mkS n 0 (rel x) (objs x) [] [] (blds x))) :
 ∃ (α : Type) (I : α → ASt → Prop) (μ : α → Nat),(∃ a S',Weaken S S' ∧ I a S') ∧
   ∀ a S,I a S → evF C call Y c (thenX (fun S' => ∃ a' S'',Weaken S' S'' ∧ I a' S'' ∧ μ a' < μ a) Q) S := by
 injection hn with e1 e2
 injection e2 with e2 e3
 injection e3 with e3 e4
 exact loopG n 0 rel objs (fun _ => []) [] blds Inv μ x0 h0 (by rw [e1,← e2,← e3]) h1 h2 (by rw [← e4]; trivial) h4 round
theorem endB {S' : ASt} {α : Type} {n : Nat} {rel : α → List (Nat × FV)} {objs : α → List (Nat × List FV)} {blds : α → List (Nat × List UInt8)} {Inv : α → Prop} {μ : α → Nat} {x : α} (x' : α)
 (h0 : Inv x') (hμ : μ x' < μ x) (hn : (n,0,[],[]) = (S'.n,S'.off,S'.pend,S'.susp)) (h1 : HasT S'.tmps (rel x')) (h2 : HasO S'.objs (objs x')) (h4 : HasB S'.blds (blds x')) :
 ∃ x' S'',Weaken S' S'' ∧ (Inv x' ∧ S'' = mkS n 0 (rel x') (objs x') [] [] (blds x')) ∧ μ x' < μ x := by
 injection hn with e1 e2
 injection e2 with e2 e3
 injection e3 with e3 e4
 exact ⟨x',_,weaken_mk (by rw [e1,← e2,← e3]) h1 h2 (by rw [← e4]; trivial) h4,⟨h0,rfl⟩,hμ⟩
theorem loopR {C : Ctx} {call : CallH} {Y : Yld} {c : Code} {Q : Exit → ASt → Prop} {α : Type} (n : Nat) (rel : α → List (Nat × FV)) (objs : α → List (Nat × List FV)) (Inv : α → Prop) (μ : α → Nat) (x0 : α)
 (h0 : Inv x0) (hn : (n,0,[],[]) = (S.n,S.off,S.pend,S.susp)) (h1 : HasT S.tmps (rel x0)) (h2 : HasO S.objs (objs x0))
 (round : ∀ x,Inv x → evF C call Y c (thenX (fun S' => ∃ x' S'',Weaken S' S'' ∧ (Inv x' ∧ S'' = mkS n 0 (rel x') (objs x') [] []) ∧ μ x' < μ x) Q) (mkS n 0 (rel x) (objs x) [] [])) :
 ∃ (α : Type) (I : α → ASt → Prop) (μ : α → Nat),(∃ a S',Weaken S S' ∧ I a S') ∧
   ∀ a S,I a S → evF C call Y c (thenX (fun S' => ∃ a' S'',Weaken S' S'' ∧ I a' S'' ∧ μ a' < μ a) Q) S :=
 loopB n rel objs (fun _ => []) Inv μ x0 h0 hn h1 h2 trivial round
theorem roundR {S' : ASt} {α : Type} {n : Nat} {rel : α → List (Nat × FV)} {objs : α → List (Nat × List FV)} {Inv : α → Prop} {μ : α → Nat} {x : α} (x' : α)
 (h0 : Inv x') (hμ : μ x' < μ x) (hn : (n,0,[],[]) = (S'.n,S'.off,S'.pend,S'.susp)) (h1 : HasT S'.tmps (rel x')) (h2 : HasO S'.objs (objs x')) :
 ∃ x' S'',Weaken S' S'' ∧ (Inv x' ∧ S'' = mkS n 0 (rel x') (objs x') [] []) ∧ μ x' < μ x :=
 endB (blds := fun _ => []) x' h0 hμ hn h1 h2 trivial
end
end Qv

end

section
namespace Qv
open Go Go.RowKit
theorem cTo' {C : Ctx} {f : FuncId} {fn : Func} {args : List AV} {R : Ret → Prop} (hf : C.P.funcs[f]? = some fn) (hb : fn.body.isSome = true) (hname : (fn.name == "runtime.NumGoroutine") = false)
 (hlen : Nat.ble args.length fn.ntmps = true) (h : ev C (match fn.body with | some c => c | none => .skip) (retPost C fn.results.toList R) (initS fn.ntmps args)) (hpan : ∀ v,¬ C.pan v := by intro _ h; exact h) : CallsTo C f args R := by
 obtain ⟨c,hc⟩ := Option.isSome_iff_exists.1 hb
 rw [hc] at h
 exact cTo hf hc hname (Nat.le_of_ble_eq_true hlen) h hpan
theorem callsTo_of_evC {C : Ctx} (l : List Nat) {f : FuncId} {fn : Func} {args : List AV} {R : Ret → Prop} (hf : C.P.funcs[f]? = some fn) (hb : fn.body.isSome = true) (hname : (fn.name == "runtime.NumGoroutine") = false)
 (hlen : Nat.ble args.length fn.ntmps = true) (h : ev (C.cut l) (match fn.body with | some c => c | none => .skip) (retPost (C.cut l) fn.results.toList R) (initS fn.ntmps args)) (hpan : ∀ v,¬ C.pan v := by intro _ h; exact h) : CallsTo C f args R :=
 cTo' (C := C.cut l) hf hb hname hlen h hpan
theorem CallsTo.cut {C : Ctx} {l : List Nat} {f : FuncId} {args : List AV} {R : Ret → Prop} (h : CallsTo C f args R) : CallsTo (C.cut l) f args R := h
theorem callsTo_of_evO {C : Ctx} (e : Extra) (l : List Nat) {f : FuncId} {fn : Func} {args : List AV} {R : Ret → Prop} (hf : C.P.funcs[f]? = some fn) (hb : fn.body.isSome = true) (hname : (fn.name == "runtime.NumGoroutine") = false)
 (hlen : Nat.ble args.length fn.ntmps = true) (h : ev ((C.cut l).open e) (match fn.body with | some c => c | none => .skip) (retPost ((C.cut l).open e) fn.results.toList R) (initS fn.ntmps args)) (hpan : ∀ v,¬ C.pan v := by intro _ h; exact h) : CallsTo C f args R :=
 cTo' (C := (C.cut l).open e) hf hb hname hlen h hpan
theorem CallsTo.opn {C : Ctx} {e : Extra} {l : List Nat} {f : FuncId} {args : List AV} {R : Ret → Prop} (h : CallsTo C f args R) : CallsTo ((C.cut l).open e) f args R := h
theorem objTo_of_evO {C : Ctx} (e : Extra) (l : List Nat) {f : FuncId} {fn : Func} {cells args : List AV} {R : AV → List AV → Prop} (hf : C.P.funcs[f]? = some fn) (hb : fn.body.isSome = true) (hname : (fn.name == "runtime.NumGoroutine") = false)
 (hlen : Nat.ble (args.length + 1) fn.ntmps = true) (h : ev ((C.cut l).open e) (match fn.body with | some c => c | none => .skip) (retPostO ((C.cut l).open e) fn.results.toList cells.length R) (initO fn.ntmps cells args)) (hpan : ∀ v,¬ C.pan v := by intro _ h; exact h) : ObjTo C f cells args R := by
 obtain ⟨c,hc⟩ := Option.isSome_iff_exists.1 hb
 rw [hc] at h
 exact objTo_of_ev (C := (C.cut l).open e) hf hc hname (Nat.le_of_ble_eq_true hlen) h hpan
theorem objToP_of_evO {C : Ctx} (p : Value → Prop) (pfn : List FuncId) (e : Extra) (l : List Nat) {f : FuncId} {fn : Func} {cells : List AV} {args : List FV} {R : AV → List AV → Prop} (hf : C.P.funcs[f]? = some fn) (hb : fn.body.isSome = true) (hname : (fn.name == "runtime.NumGoroutine") = false)
 (hlen : Nat.ble (args.length + 1) fn.ntmps = true) (h : ev (((C.cut l).open e).pans p cells.length pfn) (match fn.body with | some c => c | none => .skip) (retPostP (((C.cut l).open e).pans p cells.length pfn) fn.results.toList cells.length R) (initP fn.ntmps cells args)) : ObjToP C f cells args R p := by
 obtain ⟨c,hc⟩ := Option.isSome_iff_exists.1 hb
 rw [hc] at h
 exact objToP_of_ev (C := ((C.cut l).open e).pans p cells.length pfn) hf hc hname (Nat.le_of_ble_eq_true hlen) rfl h
theorem ObjToP.opn {C : Ctx} {e : Extra} {l : List Nat} {p : Value → Prop} {n : Nat} {pfn : List FuncId} {f : FuncId} {cells : List AV} {args : List FV} {R : AV → List AV → Prop} {X : Value → Prop} (h : ObjToP C f cells args R X) : ObjToP (((C.cut l).open e).pans p n pfn) f cells args R X := h
theorem CallsTo.pan {C : Ctx} {e : Extra} {l : List Nat} {p : Value → Prop} {n : Nat} {pfn : List FuncId} {f : FuncId} {args : List AV} {R : Ret → Prop} (h : CallsTo C f args R) : CallsTo (((C.cut l).open e).pans p n pfn) f args R := h
theorem ObjTo.pan {C : Ctx} {e : Extra} {l : List Nat} {p : Value → Prop} {n : Nat} {pfn : List FuncId} {f : FuncId} {cells args : List AV} {R : AV → List AV → Prop} (h : ObjTo C f cells args R) : ObjTo (((C.cut l).open e).pans p n pfn) f cells args R := h
theorem ObjToP.mono {C : Ctx} {f : FuncId} {cells : List AV} {args : List FV} {R R' : AV → List AV → Prop} {X X' : Value → Prop} (h : ObjToP C f cells args R X) (hr : ∀ r ys,R r ys → R' r ys) (hx : ∀ v,X v → X' v) : ObjToP C f cells args R' X' :=
 ⟨h.1,fun imm w b vs a1 a2 a3 a4 a5 a6 a7 a8 a9 => Calls.mono (h.2 imm w b vs a1 a2 a3 a4 a5 a6 a7 a8 a9) fun e w' ⟨c,q1,q2,q3,q4,q5,q6,q7,q8,q⟩ =>
  ⟨c,q1,q2,q3,q4,q5,q6,q7,q8,q.imp (fun ⟨v,r,p1,p2,p3⟩ => ⟨v,r,p1,hr _ _ p2,p3⟩) (fun ⟨v,p1,p2⟩ => ⟨v,p1,hx _ p2⟩)⟩⟩
theorem ObjTo.opn {C : Ctx} {e : Extra} {l : List Nat} {f : FuncId} {cells args : List AV} {R : AV → List AV → Prop} (h : ObjTo C f cells args R) : ObjTo ((C.cut l).open e) f cells args R := h
theorem ObjTo.mono {C : Ctx} {f : FuncId} {cells args : List AV} {R R' : AV → List AV → Prop} (h : ObjTo C f cells args R) (hr : ∀ r ys,R r ys → R' r ys) : ObjTo C f cells args R' :=
 ⟨h.1,fun imm w b vs a1 a2 a3 a4 a5 a6 a7 a8 a9 => Calls.mono (h.2 imm w b vs a1 a2 a3 a4 a5 a6 a7 a8 a9) fun e w' ⟨v,r,c,q1,q2,q3⟩ => ⟨v,r,c,q1,hr _ _ q2,q3⟩⟩
theorem cutR {S : ASt} (n : Nat) (rel : List (Nat × FV)) (objs : List (Nat × List FV)) {K : ASt → Prop} (hn : (n,0,[],[]) = (S.n,S.off,S.pend,S.susp)) (h1 : HasT S.tmps rel) (h2 : HasO S.objs objs) (h : K (mkS n 0 rel objs [] [])) :
 ∃ T,Weaken S T ∧ K T := by
 injection hn with e1 e2
 injection e2 with e2 e3
 injection e3 with e3 e4
 exact ⟨_,weaken_mk (blds := []) (by rw [e1,← e2,← e3]) h1 h2 (by rw [← e4]; trivial) trivial,h⟩
theorem wrap64 {n : Int} (h1 : -9223372036854775808 ≤ n) (h2 : n ≤ 9223372036854775807) : IntKind.i64.wrap n = n := by
 simp [IntKind.wrap,IntKind.bits,IntKind.signed]
 omega
theorem wrapU8 {n : Int} (h1 : 0 ≤ n) (h2 : n ≤ 255) : IntKind.u8.wrap n = n := by
 simp [IntKind.wrap,IntKind.bits,IntKind.signed]
 omega
abbrev Bytes := List UInt8
def enc1 (s : Bytes) : List AV := [.str s]
def encS (l : List Bytes) : AV := .sl (l.map enc1)
theorem idx_map {α : Type} {f : α → List AV} {l : List α} {n : Int} {k : Nat} (hn : n = k) (hk : k < l.length) : (l.map f)[n.toNat]? = some (f l[k]) := by
 subst hn
 simp [hk]
theorem all_one {x : List AV} {n : Nat} (h : x.length = n) : ∀ zs,zs ∈ [x] → zs.length = n := by
 intro zs hz
 rw [List.mem_singleton.1 hz]
 exact h
theorem Weak.eq {x y : FV} (h : x = y) : Weak x y := h ▸ Weak.refl x
theorem Weak.full_tip (t : Nat) (T : TypeId) (esz : Nat) : Weak (.full []) (.tip t T esz []) := fun G w v h => by
 cases h with
 | full _ a h => exact .tip t T esz [] a 0 h (.inl ⟨rfl,rfl⟩)
theorem Weak.tip_p (t : Nat) (T : TypeId) (esz : Nat) (xs : List (List AV)) : Weak (.tip t T esz xs) (.p (.sl xs)) := fun G w v h => .p _ _ (h.toAV rfl)
theorem Weak.full_p (xs : List (List AV)) : Weak (.full xs) (.p (.sl xs)) := fun G w v h => .p _ _ (h.toAV rfl)
theorem all_enc1 {α : Type} {f : α → AV} (l : List α) : ∀ zs,zs ∈ l.map (fun x => [f x]) → zs.length = 1 := by
 intro zs h
 obtain ⟨x,-,rfl⟩ := List.mem_map.1 h
 rfl
theorem u8_eq {c d : UInt8} (h : (c.toNat : Int) = (d.toNat : Int)) : c = d := UInt8.toNat.inj (by omega)
theorem al_dec {p : Prop} [Decidable p] {K : Bool → Prop} (h1 : p → K true) (h2 : ¬ p → K false) : Al fun t : Bool => t = decide p → K t :=
 ⟨fun t ht => by
  by_cases h : p
  ·rw [ht,decide_eq_true h]; exact h1 h
  ·rw [ht,decide_eq_false h]; exact h2 h⟩
theorem al_eq {α : Type} [BEq α] [LawfulBEq α] {a b : α} {K : Bool → Prop} (h1 : a = b → K true) (h2 : a ≠ b → K false) : Al fun t : Bool => t = (a == b) → K t :=
 ⟨fun t ht => by
  cases h : a == b
  ·rw [ht,h]; exact h2 (by simpa using h)
  ·rw [ht,h]; exact h1 (by simpa using h)⟩
theorem al_ne {α : Type} [BEq α] [LawfulBEq α] {a b : α} {K : Bool → Prop} (h1 : a ≠ b → K true) (h2 : a = b → K false) : Al fun t : Bool => t = (a != b) → K t :=
 ⟨fun t ht => by
  cases h : a == b
  ·rw [ht]; simp only [bne,h,Bool.not_false]; exact h1 (by simpa using h)
  ·rw [ht]; simp only [bne,h,Bool.not_true]; exact h2 (by simpa using h)⟩
theorem al_nes {α : Type} [BEq α] [LawfulBEq α] {a b : α} {K : Bool → Prop} (h1 : a ≠ b → K true) (h2 : a = b → K false) : Al fun t : Bool => t = !(a == b) → K t := al_ne h1 h2
theorem al_lt {α β : Type} {k : Nat} {l : List α} {f : α → β} {K : Bool → Prop} (h1 : k < l.length → K true) (h2 : ¬ k < l.length → K false) : Al fun t : Bool => t = decide ((k : Int) < ((l.map f).length : Int)) → K t :=
 al_dec (fun h => h1 (by simpa using h)) (fun h => h2 (by simpa using h))
theorem al_not {b : Bool} {K : Bool → Prop} (h : K !b) : Al fun t : Bool => t = !b → K t := ⟨fun t ht => ht ▸ h⟩
end Qv

end

section
namespace Qv
open Go Go.Proofs Go.Shelf Go.RowKit
variable {P : Program} {ρ : Ren}
theorem row_of_bld {C : Ctx} {w : World} {b : Nat} {row : Option Nat} {bs : List UInt8} (h : BldAt C w b row bs) : ∃ (p : Option Addr) (v : Value),(p = none ∨ p = some ⟨b,0,none⟩) ∧ w.heap[b]? = some (.cells #[.pointer p,v] C.bT (0,0)) ∧
 w.ownsRow 0 C.bE 1 v (Lib.byteCells bs).length (Lib.byteCells bs) ∧ v.ownBlock = row ∧ row ≠ some b := by
 obtain ⟨p,v,h1,h2,h3⟩ := h
 refine ⟨p,v,h1,h2,?_⟩
 cases row with
 | none =>
   obtain ⟨rfl,rfl⟩ := h3
   exact ⟨⟨by simp [Lib.byteCells],.inl ⟨rfl,by simp [Lib.byteCells]⟩⟩,rfl,by simp⟩
 | some r =>
   obtain ⟨hne,cap,cur,rfl,h4,h5,h6,h7,h8⟩ := h3
   have hl : (Lib.byteCells bs).length = bs.length := Lib.byteCells_length bs
   refine ⟨⟨by simp,.inr ⟨r,cap,cur,by rw [hl],Nat.zero_le _,h4,by rw [hl]; exact h5,h6,by omega,?_⟩⟩,rfl,fun e => hne (Option.some.inj e).symm⟩
   rw [hl,Nat.mul_one,h8]
   rfl
theorem tabOK_byte {e : TypeId} {i0 : TypeInfo} (hi : P.info? e = some i0) (hz : i0.zero = some (.int .u8 0)) (hs : i0.size = 1) (hb : i0.bytes = 1) (hu : P.underlying e = some (.int .u8)) : TabOK P e ⟨1,1,.int .u8,[.int .u8 0]⟩ :=
 ⟨by rw [hi]; simp [hz,hs,hb,Value.cells],by rw [hu]; rfl,rfl⟩
structure But (b : Nat) (row : Option Nat) (w w' : World) : Prop where
 os : w'.os = w.os
 tape : w'.tape = w.tape
 output : w'.output = w.output
 size : w.heap.size ≤ w'.heap.size
 block : ∀ k,k < w.heap.size → k ≠ b → row ≠ some k → w'.heap[k]? = w.heap[k]?
theorem But.refl (b : Nat) (row : Option Nat) (w : World) : But b row w w := ⟨rfl,rfl,rfl,Nat.le_refl _,fun _ _ _ _ => rfl⟩
theorem But.trans {b : Nat} {row : Option Nat} {A B D : World} (h : But b row A B) (k : But b row B D) : But b row A D :=
 ⟨k.os.trans h.os,k.tape.trans h.tape,k.output.trans h.output,Nat.le_trans h.size k.size,fun i hi h1 h2 => (k.block i (Nat.lt_of_lt_of_le hi h.size) h1 h2).trans (h.block i hi h1 h2)⟩
theorem But.setCell {b : Nat} {row : Option Nat} {A B : World} (h : But b row A B) (i : Nat) (v : Value) : But b row A (B.setCell ⟨b,i,none⟩ v) :=
 h.trans ⟨rfl,rfl,rfl,by simp,fun k _ h1 _ => Below.heap_setCell _ _ _ _ h1⟩
theorem But.drew {b : Nat} {row : Option Nat} {A B : World} (h : But b row A B) : But b row A B.drew := ⟨h.os,h.tape,h.output,h.size,h.block⟩
theorem But.below {b : Nat} {row : Option Nat} {A B : World} (h : Below A.heap.size A B) : But b row A B := ⟨h.os,h.tape,h.output,h.size,fun k hk _ _ => h.block k hk⟩
theorem bld_copyCheck (L : Lays.n240 P ρ) (X : Builder.X72 P ρ) {b : Nat} {p : Option Addr} {v : Value} {w : World} (hp : p = none ∨ p = some ⟨b,0,none⟩) (h : w.heap[b]? = some (.cells #[.pointer p,v] (ρ.t 72) (0,0))) (row : Option Nat) :
 Calls P (ρ.f 240) #[.pointer (some ⟨b,0,none⟩)] w fun e w' => e = .returned (.tuple #[]) ∧ w'.heap[b]? = some (.cells #[.pointer (some ⟨b,0,none⟩),v] (ρ.t 72) (0,0)) ∧ But b none w w' := by
 rcases hp with rfl | rfl
 ·refine (Any.Builder_copyCheck_fresh L X b w (by rw [Lib.cell_of_heap h]; rfl) (by simp [World.shape?,h]) (Lib.frozen_of_heap h 0)).mono ?_
  rintro e w' ⟨rfl,rfl⟩
  refine ⟨rfl,?_,(But.refl _ _ w).setCell 0 _⟩
  simp [World.setCell,Array.getElem?_modify,h]
 ·refine (Any.Builder_copyCheck_used L X b w (by rw [Lib.cell_of_heap h]; rfl)).mono ?_
  rintro e w' ⟨rfl,rfl⟩
  exact ⟨rfl,h,But.refl _ _ _⟩
theorem But.freeze {b g : Nat} {A B : World} (h : But b (some g) A B) (n : Nat) : But b (some g) A (B.freeze ⟨g,0,none⟩ n) := by
 refine h.trans ?_
 unfold World.freeze
 split
 ·exact But.refl _ _ _
 ·refine ⟨rfl,rfl,rfl,by simp,fun k _ _ h2 => ?_⟩
  simp only [Array.getElem?_modify]
  rw [if_neg (fun e => h2 (congrArg some e))]
set_option maxHeartbeats 2000000 in
set_option maxRecDepth 100000 in
theorem bld_string1 (L : Lays.n169 P ρ) (X : Builder.Extra P ρ) {b g cap : Nat} {p : Value} {cur : Array Value} {l : List UInt8} {w : World} (h0 : l ≠ []) (hbk : w.heap[b]? = some (.cells #[p,.slice (some ⟨g,0,none⟩) l.length cap] (ρ.t 72) (0,0)))
 (hown : w.ownsRow 0 (ρ.t 5) 1 (.slice (some ⟨g,0,none⟩) l.length cap) l.length (Lib.byteCells l)) (hg : w.heap[g]? = some (.cells cur (ρ.t 5) (0,0))) (hnc : l.length ≤ cap) (hcm : cap ≤ maxLen) (hcs : cur.size = cap * 1) :
 Calls P (ρ.f 169) #[.pointer (some ⟨b,0,none⟩)] w fun e w' => e = .returned (.string ⟨l.toArray⟩) ∧ But b (some g) w w' ∧ (b ≠ g → w'.heap[b]? = w.heap[b]?) := by
 have hl0 : l.length ≠ 0 := by simpa using h0
 have c1 : w.drew.cell? ⟨b,1,none⟩ = some (.slice (some ⟨g,0,none⟩) l.length cap) := by
  have : w.drew.heap[b]? = some (.cells #[p,.slice (some ⟨g,0,none⟩) l.length cap] (ρ.t 72) (0,0)) := hbk
  rw [Lib.cell_of_heap this]; rfl
 have hSD : (Builtin.unsafeSliceData_ #[(ρ.t 37)] (ρ.t 127) #[.slice (some ⟨g,0,none⟩) l.length cap]).run P w.drew = .ok (.pointer (some ⟨g,0,none⟩)) w.drew :=
  Lib.run_unsafeSliceData_row _ _ _ _ _ _ (by omega)
 have hUS : (Builtin.unsafeString_ #[(ρ.t 127),(ρ.t 3)] (ρ.t 9) #[.pointer (some ⟨g,0,none⟩),.int .i64 l.length]).run P w.drew = .ok (.string ⟨l.toArray⟩) (w.drew.freeze ⟨g,0,none⟩ l.length) := by
  refine Lib.run_unsafeString_row w.drew (ρ.t 127) (ρ.t 3) (ρ.t 9) (ρ.t 5) L.t127 X.cellsByte g cur.size (by have hg' : w.drew.heap[g]? = some (.cells cur (ρ.t 5) (0,0)) := hg; simp [World.shape?,hg']) l h0 (by omega) (by unfold maxLen at hcm; omega) ?_
  intro j x hx
  have := hown.cells (g := g) rfl j (.int .u8 x.toNat) (by simp [Lib.byteCells,hx])
  exact this
 have mixed := L.mixed
 have t72 := L.t72; have a72 := L.a72; have z72 := L.z72; have v72 := L.v72; have u72 := run_underlying L.t72
 have t70 := L.t70; have a70 := L.a70; have z70 := L.z70; have v70 := L.v70; have u70 := run_underlying L.t70
 have t37 := L.t37; have a37 := L.a37; have z37 := L.z37; have v37 := L.v37; have u37 := run_underlying L.t37
 have t127 := L.t127; have a127 := L.a127; have z127 := L.z127; have v127 := L.v127; have u127 := run_underlying L.t127
 have t3 := L.t3; have a3 := L.a3; have z3 := L.z3; have v3 := L.v3; have u3 := run_underlying L.t3
 have t9 := L.t9; have a9 := L.a9; have z9 := L.z9; have v9 := L.v9; have u9 := run_underlying L.t9
 have t5 := X.t5; have a5 := X.a5; have z5 := X.z5; have v5 := X.v5; have u5 := run_underlying X.t5
 have fin : But b (some g) w (w.drew.freeze ⟨g,0,none⟩ l.length) ∧ (b ≠ g → (w.drew.freeze ⟨g,0,none⟩ l.length).heap[b]? = w.heap[b]?) := by
  refine ⟨((But.refl b (some g) w).drew).freeze _,fun hne => ?_⟩
  unfold World.freeze
  rw [if_neg hl0]
  simp only [Array.getElem?_modify]
  rw [if_neg (fun e => hne e.symm)]
  rfl
 go_enter L.f169,Body.n169_ntmps ρ
 go_wp2
 go_region_o
 all_goals (go_wp2; go_ret; exact ⟨rfl,fin⟩)
theorem bld_string (L : Lays.n169 P ρ) (X : Builder.Extra P ρ) {b : Nat} {p v : Value} {l : List UInt8} {w : World} (hbk : w.heap[b]? = some (.cells #[p,v] (ρ.t 72) (0,0)))
 (hown : w.ownsRow 0 (ρ.t 5) 1 v l.length (Lib.byteCells l)) (hne : v.ownBlock ≠ some b) :
 Calls P (ρ.f 169) #[.pointer (some ⟨b,0,none⟩)] w fun e w' => e = .returned (.string ⟨l.toArray⟩) ∧ But b v.ownBlock w w' ∧ w'.heap[b]? = some (.cells #[p,v] (ρ.t 72) (0,0)) := by
 have hlt := (Array.getElem?_eq_some_iff.1 hbk).1
 have ofB : ∀ {row : Option Nat} {w' : World},Below w.heap.size w w' → But b row w w' ∧ w'.heap[b]? = some (.cells #[p,v] (ρ.t 72) (0,0)) := fun h => ⟨But.below h,(h.block b hlt).trans hbk⟩
 cases l with
 | nil =>
   rcases hown.2 with ⟨rfl,_⟩ | ⟨g,cap,cur,rfl,hbg,hg,_,_,_,_⟩
   ·exact (Any.Builder_String_nil L X w.heap.size b p w hbk).mono fun e w' ⟨h1,h2⟩ => ⟨h1,ofB h2⟩
   ·by_cases hc0 : cap = 0
    ·subst hc0
     exact (Any.Builder_String_noroom L X w.heap.size b g p cur w (Nat.le_refl _) hbk hg).mono fun e w' ⟨h1,h2⟩ => ⟨h1,ofB h2⟩
    ·exact (Any.Builder_String_room L X w.heap.size b g cap p w hc0 hbk).mono fun e w' ⟨h1,h2⟩ => ⟨h1,ofB h2⟩
 | cons x r =>
   rcases hown.2 with ⟨_,hz⟩ | ⟨g,cap,cur,rfl,hbg,hg,hnc,hcm,hcs,htake⟩
   ·simp at hz
   ·refine (bld_string1 L X (by simp) hbk hown hg hnc hcm hcs).mono fun e w' ⟨h1,h2,h3⟩ => ⟨h1,h2,?_⟩
    exact (h3 (fun e => hne (by rw [e]; rfl))).trans hbk
theorem bldAt_of {C : Ctx} {w : World} {b : Nat} {v : Value} {l : List UInt8} (h : w.heap[b]? = some (.cells #[.pointer (some ⟨b,0,none⟩),v] C.bT (0,0))) (hown : w.ownsRow 0 C.bE 1 v l.length (Lib.byteCells l)) (hne : v.ownBlock ≠ some b) :
 BldAt C w b v.ownBlock l := by
 refine ⟨_,v,.inr rfl,h,?_⟩
 rcases hown.2 with ⟨rfl,h0⟩ | ⟨g,cap,cur,rfl,-,h1,h2,h3,h4,h5⟩
 ·exact ⟨rfl,List.length_eq_zero_iff.1 h0⟩
 ·refine ⟨fun e => hne (by rw [e]; rfl),cap,cur,rfl,h1,h2,h3,by omega,?_⟩
  rw [Nat.mul_one] at h5
  exact h5
theorem bldTo_string (L : Lays.n169 P ρ) (X : Builder.Extra P ρ) {C : Ctx} (hP : C.P = P) (hT : C.bT = ρ.t 72) (hE : C.bE = ρ.t 5) {fn : Func} (hf : P.funcs[ρ.f 169]? = some fn) (hb : fn.body.isNone = false) (hname : (fn.name == "runtime.NumGoroutine") = false)
 {bs : List UInt8} : BldTo C (ρ.f 169) [] bs none (.str bs) := by
 subst hP
 refine ⟨⟨fn,hf,hb,hname⟩,fun w b row vs hJ hat hl hr => ?_⟩
 obtain rfl : vs = [] := List.length_eq_zero_iff.1 hl
 obtain ⟨p,v,hp,hbk,hown,hrow,hne⟩ := row_of_bld hat
 rw [hT] at hbk
 rw [hE,Lib.byteCells_length] at hown
 refine (bld_string L X hbk hown (by rw [hrow]; exact hne)).mono ?_
 rintro e w' ⟨rfl,h5,h1⟩
 exact ⟨_,rfl,.str bs,⟨_,_,by rw [hT]; exact h1⟩,h5.os,h5.tape,h5.output,h5.size,fun k hk k1 k2 => h5.block k hk k1 (by rw [hrow]; exact k2)⟩
end Qv

end

section
namespace Qv
open Go Go.Proofs Go.Shelf Go.RowKit
variable {P : Program} {ρ : Ren}
theorem append_where2 {w : World} {t u e ty : TypeId} {i : TInfo} (ht : P.underlying t = some (.slice e)) {d : TypeDesc} (hu : P.underlying u = some d) (hd : ∀ k,d ≠ .int k) (hi : TabOK P e i) (hs1 : i.size = 1) (hb1 : i.bytes = 1) {v : Value} {n : Nat} {xs : List Value} (hown : w.ownsRow 0 e 1 v n xs) {yv : Value} {m : Nat} {news : List Value} (hn2 : (Builtin.lenOf yv).run P w = .ok m w) (hn3 : ∀ w',(∀ b o,w'.cell? ⟨b,o,none⟩ = w.cell? ⟨b,o,none⟩) → (Builtin.firstCells 1 m yv).run P w' = .ok news.toArray w') (hnl : news.length = m) (hone : ∀ u,u ∈ news → u.oneCell' = true) (hlen : n + m ≤ 140737488355328)
 {v' : Value} {w' : World} (hr : (Builtin.append_ #[t,u] ty #[v,yv]).run P w = .ok v' w') : v'.ownBlock = v.ownBlock ∨ ∃ x,v'.ownBlock = some x ∧ w.heap.size ≤ x := by
 have inj : ∀ {v2 : Value} {w2 : World},(Builtin.append_ #[t,u] ty #[v,yv]).run P w = .ok v2 w2 → v' = v2 := fun h => by rw [h] at hr; injection hr with e1 _; exact e1.symm
 rcases hown.2 with ⟨rfl,rfl⟩ | ⟨g,cap,cur,rfl,-,hg,hnc,hcm,hcs,-⟩
 ·by_cases h0 : m = 0
  ·have hnn : news = [] := List.length_eq_zero_iff.1 (by omega)
   rw [h0] at hn2 hn3
   left
   rw [inj (run_app_room0 (n := 0) (c := 0) (base := none) ht hu hd hi hn2 (by rw [hs1,hn3 w (fun _ _ => rfl),hnn]) (Nat.le_refl _))]
  ·obtain ⟨rest,z,-,-,hrun⟩ := run_app_grow (P := P) (w := w) (ty := ty) (n := 0) (c := 0) (m := m) (base := none) (olds := []) (news := news) ht hu hd hi hn2 (fun w' hw => by rw [hs1]; exact hn3 w' hw) (fun w' _ => by rw [hs1]; simp [Builtin.firstCells,loadCells,loadCellsFrom]) (by omega) (by rw [hb1]; omega) (by omega)
   right
   rw [inj hrun]
   exact ⟨_,rfl,Nat.le_refl _⟩
 ·by_cases h0 : m = 0
  ·have hnn : news = [] := List.length_eq_zero_iff.1 (by omega)
   rw [h0] at hn2 hn3
   left
   rw [inj (run_app_room0 ht hu hd hi hn2 (by rw [hs1,hn3 w (fun _ _ => rfl),hnn]) hnc)]
  ·have hcell : ∀ q,q < cap → w.cell? ⟨g,q,none⟩ = cur[q]? := fun q _ => by rw [Lib.cell_of_heap hg]
   by_cases hroom : n + m ≤ cap
   ·left
    rw [inj (run_app_room (n := n) (c := cap) (m := m) (b := g) (off := 0) (news := news) ht hu hd hi hn2 (by rw [hs1]; exact hn3 w (fun _ _ => rfl)) hroom (fun j hj => by
     rw [hcell _ (by rw [hs1]; omega)]
     simp [hs1]; omega) (fun j hj => Lib.frozen_of_heap hg _) hone)]
    rfl
   ·right
    obtain ⟨rest,z,-,-,hrun⟩ := run_app_grow (P := P) (w := w) (ty := ty) (n := n) (c := cap) (m := m) (base := some ⟨g,0,none⟩) (olds := cur.toList.take n) (news := news) ht hu hd hi hn2 (fun w' hw => by rw [hs1]; exact hn3 w' hw) (fun w' hw => by
     rw [hs1]
     have := run_loadCells (P := P) w' ⟨g,0,none⟩ (n * 1) (fun q => (cur[q]?).getD undef) (fun q hq' => by
      rw [Addr.add_lit,hw,hcell _ (by omega)]
      have : q < cur.size := by omega
      simp [this])
     simp only [Builtin.firstCells,this]
     congr 1
     apply Array.toList_inj.1
     apply List.ext_getElem?
     intro q
     by_cases hq : q < n
     ·have : q < cur.size := by omega
      simp [hq,this]
     ·simp [hq]; omega) (by omega) (by rw [hb1]; omega) (by omega)
    rw [inj hrun]
    exact ⟨_,rfl,Nat.le_refl _⟩
theorem wpList_append_byte {w : World} {ops : Array Oper} {rest : List Oper} {o : Oper} {a : Act} {Q : Exit → Act → World → Prop} (hgd : o.guard = none) (sl x : Operand) (t : TypeId)
 (ho : o.op = .call { callee := .builtin .append,args := #[sl,x],argTypes := #[t,t] })
 (e : TypeId) (i : TypeInfo) (ht : P.underlying t = some (.slice e)) (he : P.underlying e = some (.int .u8)) (hi : P.info? e = some i) (hz : i.zero = some (.int .u8 0))
 (hsize : i.size = 1) (hby : i.bytes = 1)
 (v : Value) (n : Nat) (xs : List Value) (hs : a.eval sl = v) (hown : w.ownsRow 0 e 1 v n xs) (c : Int) (N : Nat) (hx : a.eval x = .slice (some ⟨N,0,none⟩) 1 1) (hN : w.cell? ⟨N,0,none⟩ = some (.int .u8 c))
 (hbytes : n + 1 ≤ 140737488355328)
 (h : ∀ v' w',w'.ownsRow 0 e 1 v' (n + 1) (xs ++ [.int .u8 c]) → w.grownBy w' v.ownBlock → (v'.ownBlock = v.ownBlock ∨ ∃ y,v'.ownBlock = some y ∧ w.heap.size ≤ y) → wpList P ops Q rest (a.put o.dst v') w') : wpList P ops Q (o :: rest) a w := by
 refine wpList_plain hgd fun K hK => ?_
 have hcell : ∀ (j : Nat) (u : Value),[Value.int .u8 c][j]? = some u → w.cell? ((⟨N,0,none⟩ : Addr).add j) = some u := fun j u hj => by
  match j,hj with
  | 0,hj => simp at hj; subst hj; simpa [Addr.add] using hN
 obtain ⟨v',w',hr,h2,h3,-⟩ := run_append_own (P := P) w 0 t o.type e i (.int .u8 0) 1 1 ht hi hz hsize hby rfl (by decide) v n xs hown ⟨N,0,none⟩ 1 1 [.int .u8 c] rfl hcell (fun u hu => by simp at hu; subst hu; rfl) (by unfold maxLen; omega) (by omega) (Nat.zero_le _)
 have h5 := append_where2 ht ht (fun k h => by cases h) (tabOK_byte hi hz hsize hby he) rfl rfl hown (m := 1) (news := [.int .u8 c]) (yv := .slice (some ⟨N,0,none⟩) 1 1) (by simp [Builtin.lenOf]) (fun w' hw => by
  have := run_loadCells (P := P) w' ⟨N,0,none⟩ 1 (fun _ => .int .u8 c) (fun q hq => by
   obtain rfl : q = 0 := by omega
   rw [Addr.add_lit,hw]
   exact hN)
  simpa [Builtin.firstCells] using this) rfl (fun u hu => by simp at hu; subst hu; rfl) hbytes hr
 unfold Oper.wp execOp
 simp only [ho,resolve,invoke,builtin,Sem.run_bind,Sem.run_pure,Result.andThen_ok,List.map_toArray,List.map_cons,List.map_nil,hs,hx,hr]
 exact hK _ _ (h v' w' h2 h3 h5)
set_option maxHeartbeats 2000000 in
set_option maxRecDepth 100000 in
theorem bld_writeByte (L : Lays.n167 P ρ) (X : Builder.Extra P ρ) {b : Nat} {p : Option Addr} {v : Value} {bs : List Value} {c : Int} {w : World} (hp : p = none ∨ p = some ⟨b,0,none⟩) (h : w.heap[b]? = some (.cells #[.pointer p,v] (ρ.t 72) (0,0)))
 (hown0 : w.ownsRow 0 (ρ.t 5) 1 v bs.length bs) (hne : v.ownBlock ≠ some b) (hlen : bs.length + 1 ≤ 140737488355328) :
 Calls P (ρ.f 167) #[.pointer (some ⟨b,0,none⟩),.int .u8 c] w fun e w' => e = .returned .nilIface ∧
  ∃ v',w'.heap[b]? = some (.cells #[.pointer (some ⟨b,0,none⟩),v'] (ρ.t 72) (0,0)) ∧ w'.ownsRow 0 (ρ.t 5) 1 v' (bs.length + 1) (bs ++ [.int .u8 c]) ∧ v'.ownBlock ≠ some b ∧
    (v'.ownBlock = v.ownBlock ∨ ∃ x,v'.ownBlock = some x ∧ w.heap.size ≤ x) ∧ But b v.ownBlock w w' := by
 obtain ⟨i0,hi,hz0,hz1,hz2⟩ := info_parts X.infoByte
 have mixed := L.mixed
 have t72 := L.t72; have a72 := L.a72; have z72 := L.z72; have v72 := L.v72; have u72 := run_underlying L.t72
 have t70 := L.t70; have a70 := L.a70; have z70 := L.z70; have v70 := L.v70; have u70 := run_underlying L.t70
 have t37 := L.t37; have a37 := L.a37; have z37 := L.z37; have v37 := L.v37; have u37 := run_underlying L.t37
 have t9 := L.t9; have a9 := L.a9; have z9 := L.z9; have v9 := L.v9; have u9 := run_underlying L.t9
 have t4 := L.t4; have a4 := L.a4; have z4 := L.z4; have v4 := L.v4; have u4 := run_underlying L.t4
 have t164 := L.t164; have a164 := L.a164; have z164 := L.z164; have v164 := L.v164; have u164 := run_underlying L.t164
 have t5 := L.t5; have a5 := L.a5; have z5 := L.z5; have v5 := L.v5; have u5 := run_underlying L.t5
 have e240 : ∀ args w,(callFunc (ρ.f 240) args).run P w = .ok (.enter (ρ.f 240) args) w := enters_of L.f240 (by kernel_rfl) rfl
 go_enter L.f167,Body.n167_ntmps ρ
 go_wp2_with (go_at_fn (ρ.f 240); refine (bld_copyCheck { L with } X.toX72 hp h none).mono ?_)
 rintro e w1 ⟨rfl,hbk,hb1⟩
 have hown : w1.ownsRow 0 (ρ.t 5) 1 v bs.length bs := by
  refine ⟨hown0.1,hown0.2.imp id ?_⟩
  rintro ⟨g,cap,cur,rfl,q1,q2,q3⟩
  refine ⟨g,cap,cur,rfl,q1,?_,q3⟩
  rw [hb1.block g (Array.getElem?_eq_some_iff.1 q2).1 (fun e => hne (by rw [e]; rfl)) (by simp)]
  exact q2
 have c0 : w1.cell? ⟨b,0,none⟩ = some (.pointer (some ⟨b,0,none⟩)) := by rw [Lib.cell_of_heap hbk]; rfl
 have c1 : w1.cell? ⟨b,1,none⟩ = some v := by rw [Lib.cell_of_heap hbk]; rfl
 go_wp2_with (at_builtin; refine wpList_append_byte rfl _ _ (ρ.t 37) rfl (ρ.t 5) i0 L.t37 L.t5 hi hz0 hz1 hz2 _ _ _ rfl (hown.alloc _) c w1.heap.size rfl ?cN ?c4 ?_)
 case cN => simp [go_sem]
 case c4 => omega
 intro v' w2 hown' hgrow hwhere
 have hlt : b < w1.heap.size := (Array.getElem?_eq_some_iff.1 hbk).1
 have hb2 : w2.heap[b]? = some (.cells #[.pointer (some ⟨b,0,none⟩),v] (ρ.t 72) (0,0)) := by
  rw [hgrow.block b (by simp; omega) (fun e => hne e.symm),Lib.alloc_old w1 _ b hlt]
  exact hbk
 have d0 : w2.cell? ⟨b,0,none⟩ = some (.pointer (some ⟨b,0,none⟩)) := by rw [Lib.cell_of_heap hb2]; rfl
 have d1 : w2.cell? ⟨b,1,none⟩ = some v := by rw [Lib.cell_of_heap hb2]; rfl
 have f1 : w2.frozen? ⟨b,1,none⟩ = false := Lib.frozen_of_heap hb2 1
 obtain ⟨ao,n',cap,rfl⟩ : ∃ ao n' cap,v' = .slice ao n' cap := by
  rcases hown'.2 with ⟨hv,_⟩ | ⟨g,cap,cur,hv,_⟩
  ·exact ⟨_,_,_,hv⟩
  ·exact ⟨_,_,_,hv⟩
 go_wp2
 go_ret
 have hne' : (Value.slice ao n' cap).ownBlock ≠ some b := by
  rcases hwhere with e | ⟨y,e,hy⟩
  ·rw [e]; exact hne
  ·rw [e]; intro e2; have := Option.some.inj e2; (try simp at hy); omega
 have hbut : But b v.ownBlock w (w2.setCell ⟨b,1,none⟩ (.slice ao n' cap)) :=
  But.setCell (But.trans ⟨hb1.os,hb1.tape,hb1.output,hb1.size,fun k hk h1 _ => hb1.block k hk h1 (by simp)⟩ ⟨hgrow.os,hgrow.tape,hgrow.output,Nat.le_trans (by simp) hgrow.size,fun k hk _ h2 => (hgrow.block k (by simp; omega) (fun e => h2 e.symm)).trans (Lib.alloc_old w1 _ k hk)⟩) 1 _
 refine ⟨rfl,.slice ao n' cap,?_,?_,hne',?_,hbut⟩
 ·simp [World.setCell,Array.getElem?_modify,hb2]
 ·refine ⟨hown'.1,hown'.2.imp id ?_⟩
  rintro ⟨g,cap',cur,e1,q1,q2,q3⟩
  refine ⟨g,cap',cur,e1,q1,?_,q3⟩
  rw [Below.heap_setCell _ _ _ _ (fun e => hne' (by rw [e1]; show some g = some b; exact congrArg some e))]
  exact q2
 ·rcases hwhere with e | ⟨y,e,hy⟩
  ·exact .inl e
  ·exact .inr ⟨y,e,by have := hb1.size; (try simp at hy); omega⟩
theorem bldTo_writeByte (L : Lays.n167 P ρ) (X : Builder.Extra P ρ) {C : Ctx} (hP : C.P = P) (hT : C.bT = ρ.t 72) (hE : C.bE = ρ.t 5) {fn : Func} (hf : P.funcs[ρ.f 167]? = some fn) (hb : fn.body.isNone = false) (hname : (fn.name == "runtime.NumGoroutine") = false)
 {bs : List UInt8} {c : UInt8} (hlen : bs.length + 1 ≤ 140737488355328) : BldTo C (ρ.f 167) [.int .u8 c.toNat] bs (some (bs ++ [c])) .nili := by
 subst hP
 refine ⟨⟨fn,hf,hb,hname⟩,fun w b row vs hJ hat hl hr => ?_⟩
 match vs,hl with
 | [v0],_ =>
 have h0 := hr 0 v0 _ rfl rfl
 obtain rfl : v0 = .int .u8 c.toNat := by cases h0; rfl
 obtain ⟨p,v,hp,hbk,hown,hrow,hne⟩ := row_of_bld hat
 rw [hT] at hbk
 rw [hE] at hown
 have hbl : (Lib.byteCells bs).length = bs.length := Lib.byteCells_length bs
 refine (bld_writeByte L X hp hbk hown (by rw [hrow]; exact hne) (by rw [hbl]; exact hlen)).mono ?_
 rintro e w' ⟨rfl,v',h1,h2,h3,h4,h5⟩
 refine ⟨_,rfl,.nili,⟨v'.ownBlock,bldAt_of (by rw [hT]; exact h1) ?_ h3,by rw [hrow] at h4; exact h4⟩,h5.os,h5.tape,h5.output,h5.size,fun k hk k1 k2 => h5.block k hk k1 (by rw [hrow]; exact k2)⟩
 rw [hE]
 have e1 : Lib.byteCells bs ++ [.int .u8 c.toNat] = Lib.byteCells (bs ++ [c]) := by simp [Lib.byteCells]
 rw [e1,hbl] at h2
 rw [List.length_append]
 exact h2
end Qv

end

section
namespace Qv
open Go
inductive DRep {H : Type} (P : Program) : TypeId → DataW H → List AV → Prop
 | bool (t : TypeId) (b : Bool) : P.underlying t = some .bool → DRep P t (.lit (.bool b)) [.bool b]
 | int (t : TypeId) (k : IntKind) (n : Int) : P.underlying t = some (.int k) → (Lit.int k n).wf = true → DRep P t (.lit (.int k n)) [.int k n]
 | str (t : TypeId) (s : List UInt8) : P.underlying t = some .string → DRep P t (.lit (.string s)) [.str s]
 | nil (t e : TypeId) : P.underlying t = some (.slice e) → DRep P t .nil [.sl []]
 | slice (t e : TypeId) (ds sp : List (DataW H)) (xs : List (List AV)) : P.underlying t = some (.slice e) → ds.length = xs.length →
  (∀ (i : Nat) (d : DataW H) (x : List AV),ds[i]? = some d → xs[i]? = some x → DRep P e d x) → DRep P t (.slice ds sp) [.sl xs]
 | struct (t : TypeId) (fs : Array Field) (ds : List (DataW H)) (pieces : List (List AV)) : P.underlying t = some (.struct fs) → fs.toList.length = ds.length → pieces.length = ds.length →
  (∀ (i : Nat) (f : Field) (d : DataW H) (x : List AV),fs.toList[i]? = some f → ds[i]? = some d → pieces[i]? = some x → DRep P f.type d x) → DRep P t (.agg ds) pieces.flatten
 | arr (t e : TypeId) (n : Nat) (ds : List (DataW H)) (pieces : List (List AV)) : P.underlying t = some (.array n e) → ds.length = n → pieces.length = n →
  (∀ (i : Nat) (d : DataW H) (x : List AV),ds[i]? = some d → pieces[i]? = some x → DRep P e d x) → DRep P t (.agg ds) pieces.flatten
def fineT (P : Program) (ts : List TypeId) (t : TypeId) : Bool := match P.underlying t with
 | some .bool => true
 | some (.int _) => true
 | some .string => true
 | some (.slice e) => ts.contains e && !(P.cellsOf e == 0)
 | some (.struct fs) => fs.toList.all fun f => ts.contains f.type
 | some (.array _ e) => ts.contains e
 | _ => false
def fineTs (P : Program) (ts : List TypeId) : Bool := ts.all fun t => decide (t < P.types.size) && fineT P ts t
theorem mapM_get {α β : Type} {f : α → Option β} : ∀ {l : List α} {ys : List β},l.mapM f = some ys → ys.length = l.length ∧ ∀ (i : Nat) (x : α) (y : β),l[i]? = some x → ys[i]? = some y → f x = some y
 | [],ys,h => by
   simp at h
   subst h
   exact ⟨rfl,fun i x y h => by simp at h⟩
 | a :: l,ys,h => by
   rw [List.mapM_cons] at h
   cases ha : f a with
   | none => rw [ha] at h; cases h
   | some b =>
     rw [ha] at h
     cases hl : l.mapM f with
     | none => rw [hl] at h; cases h
     | some bs =>
       rw [hl] at h
       obtain rfl := Option.some.inj h
       obtain ⟨h1,h2⟩ := mapM_get hl
       refine ⟨by simp [h1],fun i x y hx hy => ?_⟩
       cases i with
       | zero =>
         simp at hx hy
         subst hx; subst hy; exact ha
       | succ i =>
         simp at hx hy
         exact h2 i x y hx hy
theorem choose_list {β : Type} (n : Nat) (R : Nat → β → Prop) (h : ∀ i,i < n → ∃ x,R i x) : ∃ l : List β,l.length = n ∧ ∀ i x,l[i]? = some x → R i x := by
 induction n with
 | zero => exact ⟨[],rfl,by simp⟩
 | succ n ih =>
   obtain ⟨l,h1,h2⟩ := ih fun i hi => h i (by omega)
   obtain ⟨x,hx⟩ := h n (by omega)
   refine ⟨l ++ [x],by simp [h1],fun i y hy => ?_⟩
   by_cases hi : i < n
   ·rw [List.getElem?_append_left (by omega)] at hy
    exact h2 i y hy
   ·have hlt : i < (l ++ [x]).length := (List.getElem?_eq_some_iff.1 hy).1
    simp [h1] at hlt
    obtain rfl : i = n := by omega
    rw [List.getElem?_append_right (by omega)] at hy
    simp [h1] at hy
    subst hy; exact hx
def RepC (imm : Nat → Nat → Prop) (w : World) (cs : List Value) (xs : List AV) : Prop :=
 cs.length = xs.length ∧ (∀ x,x ∈ xs → x.one = true) ∧ ∀ (i : Nat) (c : Value) (x : AV),cs[i]? = some c → xs[i]? = some x → Rep imm w c x
theorem RepC.nil (imm : Nat → Nat → Prop) (w : World) : RepC imm w [] [] := ⟨rfl,by simp,by simp⟩
theorem RepC.append {imm : Nat → Nat → Prop} {w : World} {cs cs' : List Value} {xs xs' : List AV} (h : RepC imm w cs xs) (h' : RepC imm w cs' xs') : RepC imm w (cs ++ cs') (xs ++ xs') := by
 refine ⟨by simp [h.1,h'.1],fun x hx => ?_,fun i c x hc hx => ?_⟩
 ·rcases List.mem_append.1 hx with hx | hx
  ·exact h.2.1 x hx
  ·exact h'.2.1 x hx
 ·by_cases hi : i < cs.length
  ·rw [List.getElem?_append_left hi] at hc
   rw [List.getElem?_append_left (by rw [← h.1]; exact hi)] at hx
   exact h.2.2 i c x hc hx
  ·rw [List.getElem?_append_right (by omega)] at hc
   rw [List.getElem?_append_right (by rw [← h.1]; omega),← h.1] at hx
   exact h'.2.2 _ c x hc hx
theorem RepC.one {imm : Nat → Nat → Prop} {w : World} {c : Value} {x : AV} (h : Rep imm w c x) (hx : x.one = true) : RepC imm w [c] [x] :=
 ⟨rfl,by simpa using hx,fun i c' x' h1 h2 => by
  cases i with
  | zero => simp at h1 h2; subst h1; subst h2; exact h
  | succ i => simp at h1⟩
theorem pieces_rep {imm : Nat → Nat → Prop} {w : World} (size : Field → Nat) (cs : List Value) : ∀ (fs : List Field) (o : Nat) (pieces : List (List AV)),pieces.length = fs.length →
 (∀ (j : Nat) (f : Field),fs[j]? = some f → f.offset = o + ((fs.take j).map size).sum) → (cs.drop o).length = (fs.map size).sum →
 (∀ (j : Nat) (f : Field) (x : List AV),fs[j]? = some f → pieces[j]? = some x → RepC imm w ((cs.drop f.offset).take (size f)) x) → RepC imm w (cs.drop o) pieces.flatten
 | [],o,pieces,hp,ho,hl,hr => by
   have h1 : pieces = [] := List.length_eq_zero_iff.1 (by simpa using hp)
   have h2 : cs.drop o = [] := List.length_eq_zero_iff.1 (by simpa using hl)
   rw [h1,h2]
   exact .nil _ _
 | f :: fs,o,[],hp,ho,hl,hr => by simp at hp
 | f :: fs,o,x :: pieces,hp,ho,hl,hr => by
   have hf : f.offset = o := by simpa using ho 0 f rfl
   have h0 := hr 0 f x rfl rfl
   rw [hf] at h0
   simp only [List.length_drop,List.map_cons,List.sum_cons] at hl
   have ih := pieces_rep size cs fs (o + size f) pieces (by simpa using hp) (fun j g hg => by
    have := ho (j + 1) g hg
    simp only [List.take_succ_cons,List.map_cons,List.sum_cons] at this
    omega) (by simp only [List.length_drop]; omega) (fun j g y hg hy => hr (j + 1) g y hg hy)
   have : cs.drop o = (cs.drop o).take (size f) ++ cs.drop (o + size f) := by
    rw [← List.drop_drop,List.take_append_drop]
   rw [this,List.flatten_cons]
   exact h0.append ih
theorem elems_rep {imm : Nat → Nat → Prop} {w : World} (z : Nat) : ∀ (l : List (List AV)) (cs : List Value),cs.length = l.length * z →
 (∀ (i : Nat) (x : List AV),l[i]? = some x → RepC imm w ((cs.drop (i * z)).take z) x) → RepC imm w cs l.flatten
 | [],cs,hl,hr => by
   have h1 : cs = [] := List.length_eq_zero_iff.1 (by simpa using hl)
   rw [h1]
   exact .nil _ _
 | x :: l,cs,hl,hr => by
   have h0 := hr 0 x rfl
   rw [Nat.zero_mul,List.drop_zero] at h0
   simp only [List.length_cons,Nat.add_mul,Nat.one_mul] at hl
   have ih := elems_rep z l (cs.drop z) (by simp only [List.length_drop]; omega) (fun i y hy => by
    have := hr (i + 1) y (by simpa using hy)
    rw [List.drop_drop]
    rw [Nat.add_mul,Nat.one_mul,Nat.add_comm] at this
    exact this)
   rw [← List.take_append_drop z cs,List.flatten_cons]
   exact h0.append ih
theorem cells_get {w : World} {base : Nat} {a : Addr} {n : Nat} {cs : List Value} (h : w.cells? base a n = some cs) : cs.length = n ∧ ∀ (i : Nat) (c : Value),cs[i]? = some c → w.cell? (a.add i) = some c := by
 unfold World.cells? at h
 split at h
 ·obtain ⟨h1,h2⟩ := mapM_get h
  simp at h1
  refine ⟨h1,fun i c hc => ?_⟩
  have hi : i < n := by rw [← h1]; exact (List.getElem?_eq_some_iff.1 hc).1
  exact h2 i i c (by simp [hi]) hc
 ·cases h
theorem cell_lt {w : World} {a : Addr} {c : Value} (h : w.cell? a = some c) : a.block < w.heap.size ∧ a.spot = none := by
 unfold World.cell? at h
 split at h
 ·rename_i hq
  refine ⟨(Array.getElem?_eq_some_iff.1 hq).1,?_⟩
  split at h
  ·cases h
  ·rename_i hs
   cases hsp : a.spot with
   | none => rfl
   | some x => rw [hsp] at hs; simp at hs
 ·cases h
theorem fine_get {P : Program} {ts : List TypeId} (h : fineTs P ts = true) {t : TypeId} (ht : t ∈ ts) : t < P.types.size ∧ fineT P ts t = true := by
 have := List.all_eq_true.1 h t ht
 simpa using this
theorem lay_of {P : Program} (hl : laidOutB P = true) {t : TypeId} (ht : t < P.types.size) : rowFine P t = true := by
 simp only [laidOutB,Bool.and_eq_true] at hl
 exact List.all_eq_true.1 hl.1.1 t (by simpa using ht)
theorem trod_rep {H : Type} {enc : TypeId × Value → H} {P : Program} {w : World} {held : Bool} {spare : Nat → Bool} {ts : List TypeId} (hl : laidOutB P = true) (hf : fineTs P ts = true) :
 ∀ (fuel : Nat) (t : TypeId) (cs : List Value) (d : DataW H) (ps : List MemPlace),t ∈ ts → DataW.trod enc P w 0 spare held fuel t cs = some (d,ps) →
   ∃ xs,DRep P t d xs ∧ cs.length = P.cellsOf t ∧ RepC (fun b _ => b < w.heap.size) w cs xs := by
 intro fuel
 induction fuel with
 | zero => intro t cs d ps ht h; cases h
 | succ fuel ih =>
   intro t cs d ps ht h
   obtain ⟨hlt,hft⟩ := fine_get hf ht
   have hrow := lay_of hl hlt
   unfold fineT at hft
   have hone : ∀ {u : TypeDesc},P.underlying t = some u → (match u with | .bool | .int _ | .string | .slice _ => True | _ => False) → P.cellsOf t = 1 := fun {u} hu hm => by
    unfold rowFine isVar at hrow
    simp only [hu,hlt,decide_true,Bool.true_and] at hrow
    cases u <;> simp_all [kindOk]
   split at hft
   ·rename_i hu
    obtain ⟨b,rfl,hx⟩ := DataW.trod_bool hu h
    obtain ⟨rfl,rfl⟩ := Prod.mk.inj hx
    exact ⟨_,.bool t b hu,(hone hu trivial).symm,.one (.bool b) rfl⟩
   ·rename_i k hu
    obtain ⟨n,rfl,hx,hwf⟩ := DataW.trod_int hu h
    obtain ⟨rfl,rfl⟩ := Prod.mk.inj hx
    exact ⟨_,.int t k n hu hwf,(hone hu trivial).symm,.one (.int k n) rfl⟩
   ·rename_i hu
    obtain ⟨⟨⟨s⟩⟩,rfl,hx,hwf⟩ := DataW.trod_string hu h
    obtain ⟨rfl,rfl⟩ := Prod.mk.inj hx
    exact ⟨_,.str t s hu,(hone hu trivial).symm,.one (.str s) rfl⟩
   ·rename_i e hu
    simp only [Bool.and_eq_true,Bool.not_eq_true',beq_eq_false_iff_ne,ne_eq,List.contains_iff_mem] at hft
    obtain ⟨he,hesz⟩ := hft
    rcases DataW.trod_slice hu h with ⟨rfl,hx⟩ | ⟨a,len,cap,elems,rest,m,hm,rfl,hx,hb,hlc,hcm,hel,hget,_,_⟩
    ·obtain ⟨rfl,rfl⟩ := Prod.mk.inj hx
     exact ⟨_,.nil t e hu,(hone hu trivial).symm,.one (.sl0 none 0) rfl⟩
    ·obtain ⟨rfl,rfl⟩ := Prod.mk.inj hx
     obtain rfl : fuel = m := by omega
     have hone' := hone hu trivial
     have each : ∀ i,i < len → ∃ (x : List Value × List AV) (d : DataW H),(elems.map (·.1))[i]? = some d ∧ DRep P e d x.2 ∧ x.1.length = P.cellsOf e ∧ RepC (fun b _ => b < w.heap.size) w x.1 x.2 ∧
      w.cells? 0 (a.add (i * P.cellsOf e)) (P.cellsOf e) = some x.1 := fun i hi => by
      have h1 := hget i hi
      have hlt' : i < elems.length := by omega
      rw [List.getElem?_eq_getElem hlt'] at h1
      obtain ⟨cs',hcs,htr⟩ := Option.bind_eq_some_iff.1 h1
      obtain ⟨xs,g1,g2,g3⟩ := ih e cs' elems[i].1 elems[i].2 he htr
      exact ⟨(cs',xs),elems[i].1,by simp [hlt'],g1,g2,g3,hcs⟩
     obtain ⟨l,hl1,hl2⟩ := choose_list len _ each
     refine ⟨[.sl (l.map (·.2))],.slice t e _ _ _ hu (by simp [hel,hl1]) (fun i d x hd hx => ?_),hone'.symm,.one ?_ rfl⟩
     ·rw [List.getElem?_map] at hx
      cases hli : l[i]? with
      | none => rw [hli] at hx; cases hx
      | some y =>
        rw [hli] at hx
        obtain rfl := Option.some.inj hx
        obtain ⟨d',k1,k2,_⟩ := hl2 i y hli
        rw [hd] at k1
        obtain rfl := Option.some.inj k1
        exact k2
     ·by_cases h0 : len = 0
      ·subst h0
       obtain rfl : l = [] := List.length_eq_zero_iff.1 hl1
       exact .sl0 _ _
      ·have hpos : 0 < P.cellsOf e := Nat.pos_of_ne_zero hesz
       have hsp : a.spot = none := by
        obtain ⟨y,hy⟩ : ∃ y,l[0]? = some y := ⟨l[0]'(by omega),List.getElem?_eq_getElem _⟩
        obtain ⟨d',_,_,k3,_,k5⟩ := hl2 0 y hy
        obtain ⟨c1,c2⟩ := cells_get k5
        have hlt1 : 0 < y.1.length := by omega
        have := (cell_lt (c2 0 y.1[0] (List.getElem?_eq_getElem hlt1))).2
        simpa [Addr.add] using this
       obtain ⟨b,off,spot⟩ := a
       obtain rfl : spot = none := hsp
       have key : ∀ (i : Nat) (ys : List AV) (j : Nat) (y : AV),(l.map (·.2))[i]? = some ys → ys[j]? = some y →
        ∃ z c,l[i]? = some z ∧ z.2 = ys ∧ z.1[j]? = some c ∧ w.cell? ⟨b,off + i * P.cellsOf e + j,none⟩ = some c ∧ Rep (fun b _ => b < w.heap.size) w c y ∧ y.one = true ∧ ys.length = P.cellsOf e := fun i ys j y h1 h2 => by
        rw [List.getElem?_map] at h1
        cases hli : l[i]? with
        | none => rw [hli] at h1; cases h1
        | some z =>
          rw [hli] at h1
          obtain rfl := Option.some.inj h1
          simp only at h2
          obtain ⟨d',_,_,k3,⟨r1,r2,r3⟩,k5⟩ := hl2 i z hli
          obtain ⟨c1,c2⟩ := cells_get k5
          have hjl : j < z.1.length := by rw [r1]; exact (List.getElem?_eq_some_iff.1 h2).1
          refine ⟨z,z.1[j],rfl,rfl,List.getElem?_eq_getElem hjl,?_,r3 j _ _ (List.getElem?_eq_getElem hjl) h2,r2 _ (List.mem_of_getElem? h2),by show z.2.length = _; omega⟩
          have := c2 j _ (List.getElem?_eq_getElem hjl)
          rwa [Go.WideShapes.add_plain,Go.WideShapes.add_plain] at this
       have hlen : (l.map (·.2)).length = len := by simp [hl1]
       rw [← hlen]
       refine .sl b off cap (P.cellsOf e) _ (fun i j => match l[i]? with | some z => z.1.getD j undef | none => undef) ?_ ?_ ?_ ?_ ?_ (by omega)
       ·intro i ys h1
        rw [List.getElem?_map] at h1
        cases hli : l[i]? with
        | none => rw [hli] at h1; cases h1
        | some z =>
          rw [hli] at h1
          obtain rfl := Option.some.inj h1
          obtain ⟨d',_,_,k3,⟨r1,_⟩,_⟩ := hl2 i z hli
          show z.2.length = _
          omega
       all_goals
        intro i ys j y h1 h2
        obtain ⟨z,c,hz,hzy,hzc,hcell,hrep,hy1,_⟩ := key i ys j y h1 h2
       ·exact hy1
       ·simp only [hz,List.getD,hzc,Option.getD_some]
        exact hcell
       ·exact (cell_lt hcell).1
       ·simp only [hz,List.getD,hzc,Option.getD_some]
        exact hrep
   ·rename_i fs hu
    obtain ⟨xs,m,hm,hx,hcl,hxl,hget⟩ := DataW.trod_struct hu h
    obtain ⟨rfl,rfl⟩ := Prod.mk.inj hx
    obtain rfl : fuel = m := by omega
    have hall := List.all_eq_true.1 hft
    have hk : isVar P t = true := by
     unfold isVar
     rw [hu]
     simp [hlt,kindOk]
    unfold rowFine at hrow
    rw [hk,hu] at hrow
    simp only [Bool.not_true,Bool.false_or,Bool.and_eq_true,beq_iff_eq] at hrow
    obtain ⟨⟨_,hsum⟩,hoff⟩ := hrow
    have each : ∀ i,i < fs.size → ∃ (x : List AV),∀ f d,fs.toList[i]? = some f → (xs.map (·.1))[i]? = some d → DRep P f.type d x ∧ RepC (fun b _ => b < w.heap.size) w ((cs.drop f.offset).take (P.cellsOf f.type)) x := fun i hi => by
     have h1 := hget i fs[i] (Array.getElem?_eq_getElem hi)
     have hlt' : i < xs.length := by omega
     rw [List.getElem?_eq_getElem hlt'] at h1
     have hmem : fs[i].type ∈ ts := by
      have := hall fs[i] (by simp)
      simpa using this
     obtain ⟨x,g1,g2,g3⟩ := ih fs[i].type _ xs[i].1 xs[i].2 hmem h1
     refine ⟨x,fun f d hf hd => ?_⟩
     rw [Array.getElem?_toList,Array.getElem?_eq_getElem hi] at hf
     obtain rfl := Option.some.inj hf
     rw [List.getElem?_map,List.getElem?_eq_getElem hlt'] at hd
     obtain rfl := Option.some.inj hd
     exact ⟨g1,g3⟩
    obtain ⟨l,hl1,hl2⟩ := choose_list fs.size _ each
    refine ⟨l.flatten,.struct t fs _ l hu (by simp [hxl]) (by simp [hl1,hxl]) (fun i f d x hf hd hx => (hl2 i x hx f d hf hd).1),hcl,?_⟩
    have hp := pieces_rep (imm := fun b _ => b < w.heap.size) (w := w) (fun f => P.cellsOf f.type) cs fs.toList 0 l (by simp [hl1]) (fun j f hf => by
     have hj : j < fs.toList.length := (List.getElem?_eq_some_iff.1 hf).1
     have := List.all_eq_true.1 hoff j (by simpa using hj)
     rw [hf] at this
     simpa using this) (by simpa [hcl] using hsum) (fun j f x hf hx => by
     have hj : j < xs.length := by rw [hxl]; simpa using (List.getElem?_eq_some_iff.1 hf).1
     exact (hl2 j x hx f (xs[j].1) hf (by simp [hj])).2)
    simpa using hp
   ·rename_i n e hu
    rw [List.contains_iff_mem] at hft
    obtain ⟨xs,m,hm,hx,hcl,hxl,hget⟩ := DataW.trod_array hu h
    obtain ⟨rfl,rfl⟩ := Prod.mk.inj hx
    obtain rfl : fuel = m := by omega
    have hk : isVar P t = true := by
     unfold isVar
     rw [hu]
     simp [hlt,kindOk]
    unfold rowFine at hrow
    rw [hk,hu] at hrow
    simp only [Bool.not_true,Bool.false_or,Bool.and_eq_true,beq_iff_eq] at hrow
    obtain ⟨_,hsum⟩ := hrow
    have each : ∀ i,i < n → ∃ (x : List AV),∀ d,(xs.map (·.1))[i]? = some d → DRep P e d x ∧ RepC (fun b _ => b < w.heap.size) w ((cs.drop (i * P.cellsOf e)).take (P.cellsOf e)) x := fun i hi => by
     have h1 := hget i hi
     have hlt' : i < xs.length := by omega
     rw [List.getElem?_eq_getElem hlt'] at h1
     obtain ⟨x,g1,g2,g3⟩ := ih e _ xs[i].1 xs[i].2 hft h1
     refine ⟨x,fun d hd => ?_⟩
     rw [List.getElem?_map,List.getElem?_eq_getElem hlt'] at hd
     obtain rfl := Option.some.inj hd
     exact ⟨g1,g3⟩
    obtain ⟨l,hl1,hl2⟩ := choose_list n _ each
    refine ⟨l.flatten,.arr t e n _ l hu (by simp [hxl]) hl1 (fun i d x hd hx => (hl2 i x hx d hd).1),hcl,?_⟩
    refine elems_rep (P.cellsOf e) l cs (by rw [hcl,hsum,hl1]) (fun i x hx => ?_)
    have hj : i < xs.length := by have := (List.getElem?_eq_some_iff.1 hx).1; omega
    exact (hl2 i x hx (xs[i].1) (by simp [hj])).2
   ·cases hft
theorem trodAll_rep {H : Type} {enc : TypeId × Value → H} {P : Program} {w : World} {held : Bool} {spare : Nat → Bool} {ts : List TypeId} (hl : laidOutB P = true) (hf : fineTs P ts = true) :
 ∀ (us : List TypeId) (vs : List Value) (ds : List (DataW H)) (ps : List MemPlace),(∀ u,u ∈ us → u ∈ ts) → DataW.TrodAll enc P w 0 spare held us vs ds ps →
   vs.length = us.length ∧ ds.length = us.length ∧ ∀ (i : Nat) (u : TypeId) (v : Value) (d : DataW H),us[i]? = some u → vs[i]? = some v → ds[i]? = some d →
    ∃ xs,DRep P u d xs ∧ RepC (fun b _ => b < w.heap.size) w v.cells.toList xs
 | [],[],[],ps,hm,h => ⟨rfl,rfl,fun i u v d h => by simp at h⟩
 | u :: us,v :: vs,d :: ds,ps,hm,h => by
   obtain ⟨p,q,⟨fuel,h1⟩,h2,h3⟩ := h
   obtain ⟨xs,g1,_,g3⟩ := trod_rep hl hf fuel u _ d p (hm u (by simp)) h1
   obtain ⟨k1,k2,k3⟩ := trodAll_rep hl hf us vs ds q (fun u hu => hm u (by simp [hu])) h2
   refine ⟨by simp [k1],by simp [k2],fun i u' v' d' h4 h5 h6 => ?_⟩
   cases i with
   | zero =>
     simp at h4 h5 h6
     subst h4; subst h5; subst h6
     exact ⟨xs,g1,g3⟩
   | succ i => exact k3 i u' v' d' (by simpa using h4) (by simpa using h5) (by simpa using h6)
end Qv

end

section
namespace Qv
open Go Go.RowKit Go.WideShapes Go.ChangeShapes Go.WideElems
def avOf (P : Program) (t : TypeId) (xs : List AV) : AV := match P.underlying t with
 | some (.struct _) => .agg xs
 | some (.array _ _) => .agg xs
 | _ => xs.headD (.bool false)
theorem avOf_one {P : Program} {t : TypeId} {u : TypeDesc} {x : AV} (h : P.underlying t = some u) (hu : ∀ fs,u ≠ .struct fs) (hu' : ∀ n e,u ≠ .array n e := by intro _ _ h; cases h) : avOf P t [x] = x := by
 unfold avOf
 rw [h]
 cases u <;> first | rfl | exact absurd rfl (hu _) | exact absurd rfl (hu' _ _)
theorem avOf_arr {P : Program} {t e : TypeId} {n : Nat} {xs : List AV} (h : P.underlying t = some (.array n e)) : avOf P t xs = .agg xs := by
 unfold avOf
 rw [h]
def DArg {H : Type} (P : Program) (t : TypeId) (d : DataW H) (x : AV) : Prop := ∃ ys,DRep P t d ys ∧ x = avOf P t ys
theorem rep_arg {H : Type} {P : Program} {w : World} {r : Reach} {base : Nat} {t : TypeId} {v : Value} {d : DataW H} {xs : List AV} {imm : Nat → Nat → Prop}
 (hv : Value.okWide P w r base t v) (hd : DRep P t d xs) (h : RepC imm w v.cells.toList xs) : Rep imm w v (avOf P t xs) := by
 have single : ∀ {x : AV},xs = [x] → v.cells = #[v] → (∀ fs,P.underlying t ≠ some (.struct fs)) → (∀ n e,P.underlying t ≠ some (.array n e)) → Rep imm w v (avOf P t xs) := fun {x} hx hc hs hs' => by
  subst hx
  rw [hc] at h
  have h1 := h.2.2 0 v x rfl rfl
  unfold avOf
  split
  ·rename_i fs hu
   exact absurd hu (hs fs)
  ·rename_i n e hu
   exact absurd hu (hs' n e)
  ·exact h1
 cases hd with
 | bool _ b hu =>
   obtain ⟨b',rfl⟩ := okWide_bool hu hv
   exact single rfl rfl (by rw [hu]; intro _ h; cases h) (by rw [hu]; intro _ _ h; cases h)
 | int _ k n hu _ =>
   obtain ⟨b',rfl⟩ := okWide_int hu hv
   exact single rfl rfl (by rw [hu]; intro _ h; cases h) (by rw [hu]; intro _ _ h; cases h)
 | str _ s hu =>
   obtain ⟨b',rfl⟩ := okWide_string hu hv
   exact single rfl rfl (by rw [hu]; intro _ h; cases h) (by rw [hu]; intro _ _ h; cases h)
 | nil _ e hu =>
   obtain ⟨a,b,c,rfl⟩ := okWide_slice hu hv
   exact single rfl rfl (by rw [hu]; intro _ h; cases h) (by rw [hu]; intro _ _ h; cases h)
 | slice _ e ds sp xs' hu _ _ =>
   obtain ⟨a,b,c,rfl⟩ := okWide_slice hu hv
   exact single rfl rfl (by rw [hu]; intro _ h; cases h) (by rw [hu]; intro _ _ h; cases h)
 | struct _ fs ds pieces hu _ _ _ =>
   obtain ⟨cs,rfl,_⟩ := okWide_struct hu hv
   unfold avOf
   rw [hu]
   have := Rep.agg (imm := imm) (w := w) cs.toList pieces.flatten h.1 h.2.1 h.2.2
   simpa using this
 | arr _ e n ds pieces hu _ _ _ =>
   simp only [Value.okWide,hu] at hv
   obtain ⟨cs,rfl,_⟩ := hv
   unfold avOf
   rw [hu]
   have := Rep.agg (imm := imm) (w := w) cs.toList pieces.flatten h.1 h.2.1 h.2.2
   simpa using this
theorem args_rep {H : Type} {enc : TypeId × Value → H} {P : Program} {w : World} {r : Reach} {base : Nat} {held : Bool} {spare : Nat → Bool} {ts : List TypeId} (hl : laidOutB P = true) (hf : fineTs P ts = true)
 {us : List TypeId} {vs : List Value} {ds : List (DataW H)} {ps : List MemPlace} (hm : ∀ u,u ∈ us → u ∈ ts) (h : DataW.TrodAll enc P w 0 spare held us vs ds ps)
 (hv : ∀ (j : Nat) (t : TypeId) (v : Value),us[j]? = some t → vs[j]? = some v → Value.okWide P w r base t v) :
 ∃ xs : List AV,vs.length = xs.length ∧ xs.length = us.length ∧ ds.length = us.length ∧ (∀ (i : Nat) (u : TypeId) (d : DataW H) (x : AV),us[i]? = some u → ds[i]? = some d → xs[i]? = some x → DArg P u d x) ∧
   ∀ (i : Nat) (v : Value) (x : AV),vs[i]? = some v → xs[i]? = some x → Rep (fun b _ => b < w.heap.size) w v x := by
 obtain ⟨k1,k2,k3⟩ := trodAll_rep hl hf us vs ds ps hm h
 have each : ∀ i,i < us.length → ∃ x,∀ (u : TypeId) (v : Value) (d : DataW H),us[i]? = some u → vs[i]? = some v → ds[i]? = some d → DArg P u d x ∧ Rep (fun b _ => b < w.heap.size) w v x := fun i hi => by
  obtain ⟨xs,g1,g2⟩ := k3 i us[i] (vs[i]'(by omega)) (ds[i]'(by omega)) (List.getElem?_eq_getElem hi) (List.getElem?_eq_getElem _) (List.getElem?_eq_getElem _)
  refine ⟨avOf P us[i] xs,fun u v d hu hv' hd => ?_⟩
  rw [List.getElem?_eq_getElem hi] at hu
  rw [List.getElem?_eq_getElem (by omega)] at hv' hd
  obtain rfl := Option.some.inj hu
  obtain rfl := Option.some.inj hv'
  obtain rfl := Option.some.inj hd
  exact ⟨⟨xs,g1,rfl⟩,rep_arg (hv i _ _ (List.getElem?_eq_getElem hi) (List.getElem?_eq_getElem _)) g1 g2⟩
 obtain ⟨l,hl1,hl2⟩ := choose_list us.length _ each
 refine ⟨l,by omega,hl1,k2,fun i u d x hu hd hx => ?_,fun i v x hv' hx => ?_⟩
 ·have hi : i < us.length := (List.getElem?_eq_some_iff.1 hu).1
  exact (hl2 i x hx u (vs[i]'(by omega)) d hu (List.getElem?_eq_getElem _) hd).1
 ·have hi : i < us.length := by have := (List.getElem?_eq_some_iff.1 hx).1; omega
  exact (hl2 i x hx us[i] v (ds[i]'(by omega)) (List.getElem?_eq_getElem hi) hv' (List.getElem?_eq_getElem _)).2
def varsRowed (P : Program) (ns : List String) : Bool := ns.all fun n => ((P.globalNamed n).bind (P.globals[·]?)).all fun gl => P.readableRec gl.type && decide (gl.type < P.types.size)
section
variable {H : Type} {enc : TypeId × Value → H} {P : Program}
theorem args_back (hl : laidOutB P = true) {W W' : World} (hb : Below W.heap.size W W') {sp : Nat → Bool} :
 ∀ {ts : List TypeId} {vs : List Value} {ds : List (DataW H)} {ps : List MemPlace},(ts.all fun t => P.readableRec t && decide (t < P.types.size)) = true →
   (∀ x ∈ ps,x.block < W.heap.size) → (∀ x ∈ ps,sp x.block = true) → DataW.TrodAll enc P W 0 (fun _ => true) true ts vs ds ps → DataW.TrodAll enc P W' 0 sp true ts vs ds ps
 | [],[],[],_,_,_,_,h => h
 | t :: ts,v :: vs,d :: ds,ps,hr,hlt,hs,⟨p,q,h1,h2,e⟩ => by
   simp only [List.all_cons,Bool.and_eq_true,decide_eq_true_eq] at hr
   have m1 : ∀ x ∈ p,x ∈ ps := fun x hx => by rw [e]; exact List.mem_append_left _ hx
   have m2 : ∀ x ∈ q,x ∈ ps := fun x hx => by rw [e]; exact List.mem_append_right _ hx
   exact ⟨p,q,WideElems.Trod_stays hl hr.1.1 hr.1.2 h1 (fun x hx => hb.same (hlt x (m1 x hx))) (fun x hx => hs x (m1 x hx)),args_back hl hb hr.2 (fun x hx => hlt x (m2 x hx)) (fun x hx => hs x (m2 x hx)) h2,e⟩
theorem vars_back (hl : laidOutB P = true) {W W' : World} (hb : Below W.heap.size W W') {sp : Nat → Bool} :
 ∀ {ns : List String} {gs : List (DataW H)} {ps : List MemPlace},varsRowed P ns = true → (∀ x ∈ ps,sp x.block = true) → DataW.TrodVars enc P W (fun _ => true) ns gs ps → DataW.TrodVars enc P W' sp ns gs ps
 | [],[],_,_,_,h => h
 | [],_ :: _,_,_,_,h => h.elim
 | _ :: _,[],_,_,_,h => h.elim
 | n :: ns,d :: ds,ps,hv,hsp,h => by
   have hlt := h.lt
   obtain ⟨g,t,cs,fuel,p,q,h1,h2,h3,h4,hs,e⟩ := h
   simp only [varsRowed,List.all_cons,Bool.and_eq_true] at hv
   have ht : P.readableRec t = true ∧ t < P.types.size := by
    have := hv.1
    rw [h1] at this
    cases hg : P.globals[g]? with
    | none => rw [hg] at h2; cases h2
    | some gl =>
      rw [hg] at h2
      obtain rfl : gl.type = t := Option.some.inj h2
      simpa [hg] using this
   have hp : ∀ x ∈ p,x.block < W.heap.size := fun x hx => hlt x (by rw [e]; simp [hx])
   have h3' : W'.var? P n = some cs := by
    unfold World.var? at h3 ⊢
    rw [h1] at h3 ⊢
    simp only [Option.bind_some] at h3 ⊢
    have hg : g < W.heap.size := by
     cases hh : W.heap[g]? with
     | none => rw [hh] at h3; cases h3
     | some o => exact (Array.getElem?_eq_some_iff.1 hh).1
    rw [hb.block g hg]; exact h3
   exact ⟨g,t,cs,fuel,p,q,h1,h2,h3',DataW.trod_stays (kids_book hl ht.1) (book_sized ht.1) (fun h => by cases h) ⟨ht.2,book_self t⟩ h4 (fun x hx => hb.same (hp x hx)) (fun x hx => hsp x (by rw [e]; simp [hx])),
    vars_back hl hb (by simpa [varsRowed] using hv.2) (fun x hx => hsp x (by rw [e]; simp [hx])) hs,e⟩
theorem post_below {f : Func} {s : ChangeSpec} {apart fresh handsOn again : Bool} {W W' : World} {args : Array Value} {v : Value} {ds gs : List (DataW H)} {before pa pv : List MemPlace}
 (hW : DataW.Whole enc P f.params.toList s.vars apart W args.toList ds gs before)
 (hres : ∀ (b : Nat) (sp : Nat → Bool) (hd : Bool),DataW.TrodAll enc P W' b sp hd f.resultTypes.toList (v.resultList f.resultTypes.size) (s.fn H (ds ++ gs)).results [])
 (hargs : ∀ sp : Nat → Bool,(∀ p ∈ before,sp p.block = true) → DataW.TrodAll enc P W' 0 sp true f.params.toList args.toList (s.fn H (ds ++ gs)).args pa)
 (hvars : ∀ sp : Nat → Bool,(∀ p ∈ before,sp p.block = true) → DataW.TrodVars enc P W' sp s.vars (s.fn H (ds ++ gs)).vars pv)
 (hps : before = pa ++ pv) (hb : Below W.heap.size W W')
 (hok : ∀ (j : Nat) (t : TypeId) (r : Value),f.resultTypes[j]? = some t → (v.resultList f.resultTypes.size)[j]? = some r → Value.okWide P W' .any 0 t r) :
 s.post enc P f apart fresh handsOn again W args v W' := by
 have hlt : ∀ p ∈ before,p.block < W.heap.size := fun p hp => hW.lt p hp
 have hold : ∀ p ∈ before,(fun b => decide (b < W.heap.size)) p.block = true := fun p hp => by simpa using hlt p hp
 refine ⟨ds,gs,before,[],pa,pv,hW,hres _ _ _,hargs _ hold,hvars _ hold,World.keptBut_mono (fun p hp => ⟨hp,?_⟩) (hb.frame (· ∈ before)),fun _ => ?_⟩
 ·rw [hps,List.mem_append] at hp
  exact Or.inr hp
 ·obtain ⟨_,_,_,_,_,hz,hn⟩ := hW
  refine ⟨hok,_,_,([] ++ pa) ++ pv,⟨[] ++ pa,pv,trodAll_append (hargs _ (fun _ _ => rfl)) (hres _ _ _),hvars _ (fun _ _ => rfl),rfl,?_,?_⟩,?_⟩
  ·intro b off hp
   have hin : MemPlace.cell b off ∈ before := by rw [hps]; simpa using hp
   rw [hb.frozen (hlt _ hin)]
   exact hz b off hin
  ·intro ha
   have := hn ha
   rw [hps] at this
   simpa using this
  ·intro p hp _
   rw [hps]
   simpa using hp
end
theorem law_close {H : Type} {enc : TypeId × Value → H} {Cx : Ctx} {fid : FuncId} {f : Func} {s : ChangeSpec} {apart fresh handsOn again : Bool} {W : World} {base : Nat} {args : Array Value} {ds gs : List (DataW H)} {before : List MemPlace} {ts : List TypeId} {tb : TypeId} {r : Reach}
 (hl : laidOutB Cx.P = true) (hf : fineTs Cx.P ts = true) (hsub : f.params.toList.all (fun u => ts.contains u) = true)
 (hread : (f.params.toList.all fun t => Cx.P.readableRec t && decide (t < Cx.P.types.size)) = true) (hvars : varsRowed Cx.P s.vars = true)
 (hres : f.resultTypes = #[tb]) (htb : Cx.P.underlying tb = some .bool)
 (hspec : (s.fn H (ds ++ gs)).results = [.lit (.bool true)] ∧ (s.fn H (ds ++ gs)).args = ds ∧ (s.fn H (ds ++ gs)).vars = gs)
 (hval : ∀ (j : Nat) t v,f.params[j]? = some t → args[j]? = some v → Value.okWide Cx.P W r base t v)
 (hW : DataW.Whole enc Cx.P f.params.toList s.vars apart W args.toList ds gs before)
 (hJ : Cx.J W ∧ GlobOK (fun b _ => b < W.heap.size) W) (hng : Cx.nglob ≤ W.heap.size)
 (hlaw : ∀ xs : List AV,xs.length = f.params.size → ds.length = f.params.size → (∀ (i : Nat) (u : TypeId) (d : DataW H) (x : AV),f.params[i]? = some u → ds[i]? = some d → xs[i]? = some x → DArg Cx.P u d x) →
  CallsTo Cx fid xs (fun q => q = .val (.bool true))) :
 Calls Cx.P fid args W fun e W' => ∃ v,e = .returned v ∧ s.post enc Cx.P f apart fresh handsOn again W args v W' := by
 have hW' := hW
 obtain ⟨p,q,hA,hV,rfl,hfz,hnd⟩ := hW
 obtain ⟨xs,h1,h2,h3,h4,h5⟩ := args_rep hl hf (fun u hu => by
  have := List.all_eq_true.1 hsub u hu
  simpa using this) hA (r := r) (base := base) (fun j t v hj hv => hval j t v (by simpa using hj) (by simpa using hv))
 obtain ⟨_,hc⟩ := hlaw xs (by simpa using h2) (by simpa using h3) (fun i u d x hu hd hx => h4 i u d x (by simpa using hu) hd hx)
 have hcall := hc (fun b _ => b < W.heap.size) W args.toList hJ hng (fun b o h => h) h1 h5
 simp only [Array.toArray_toList] at hcall
 refine hcall.mono fun e W' ⟨v,rr,he,hr,hret,hb⟩ => ?_
 subst hr
 have hv : v = .bool true := by
  cases hret
  rfl
 subst hv
 refine ⟨_,he,post_below (pa := p) (pv := q) hW' (fun b sp hd => ?_) (fun sp hs => ?_) (fun sp hs => ?_) rfl hb (ok_one hres rfl (okWide_bool_mk htb _))⟩
 ·rw [hspec.1,hres]
  exact trodAll_mk1 (shut_bool htb _)
 ·rw [hspec.2.1]
  exact args_back hl hb hread (fun x hx => hW'.lt x (List.mem_append_left _ hx)) (fun x hx => hs x (List.mem_append_left _ hx)) hA
 ·rw [hspec.2.2]
  exact vars_back hl hb hvars (fun x hx => hs x (List.mem_append_right _ hx)) hV
section
variable {H : Type} {P : Program} {t : TypeId} {d : DataW H} {xs : List AV}
theorem DRep.bool_inv (hu : P.underlying t = some .bool) (h : DRep P t d xs) : ∃ b,xs = [.bool b] := by
 cases h with
 | bool _ b _ => exact ⟨b,rfl⟩
 | _ => simp_all
theorem DRep.int_inv {k : IntKind} (hu : P.underlying t = some (.int k)) (h : DRep P t d xs) : ∃ n,xs = [.int k n] ∧ (Lit.int k n).wf = true := by
 cases h with
 | int _ k' n h1 h2 =>
   rw [hu] at h1
   obtain rfl : k = k' := by simpa using h1
   exact ⟨n,rfl,h2⟩
 | _ => simp_all
theorem DRep.str_inv (hu : P.underlying t = some .string) (h : DRep P t d xs) : ∃ s,xs = [.str s] := by
 cases h with
 | str _ s _ => exact ⟨s,rfl⟩
 | _ => simp_all
theorem DRep.arr_inv {e : TypeId} {n : Nat} (hu : P.underlying t = some (.array n e)) (h : DRep P t d xs) :
 ∃ (ds : List (DataW H)) (pieces : List (List AV)),d = .agg ds ∧ xs = pieces.flatten ∧ ds.length = n ∧ pieces.length = n ∧ ∀ (i : Nat) (d : DataW H) (x : List AV),ds[i]? = some d → pieces[i]? = some x → DRep P e d x := by
 cases h with
 | arr _ e' n' ds pieces h1 h2 h3 h4 =>
   rw [hu] at h1
   have h5 := Option.some.inj h1
   injection h5 with h5 h6
   subst h5; subst h6
   exact ⟨ds,pieces,rfl,rfl,h2,h3,h4⟩
 | _ => simp_all
end
inductive AV.Small (M : Nat) : AV → Prop
 | bool (b : Bool) : AV.Small M (.bool b)
 | int (k : IntKind) (n : Int) : AV.Small M (.int k n)
 | str (s : List UInt8) : s.length ≤ M → AV.Small M (.str s)
 | sl (xs : List (List AV)) : xs.length ≤ M → (∀ ys,ys ∈ xs → ∀ y,y ∈ ys → AV.Small M y) → AV.Small M (.sl xs)
def bytesFine (P : Program) (ts : List TypeId) : Bool := ts.all fun t => match P.underlying t with
 | some (.slice e) => decide (0 < P.bytesOf e)
 | _ => true
theorem weightsAll_mem {H : Type} {P : Program} {e : TypeId} : ∀ {ds : List (DataW H)} {d : DataW H} {n : Nat},d ∈ ds → n ∈ d.weights P e → n ∈ DataW.weightsAll P e ds
 | x :: ds,d,n,h,hn => by
   simp only [DataW.weightsAll,List.mem_append]
   rcases List.mem_cons.1 h with rfl | h
   ·exact .inl hn
   ·exact .inr (weightsAll_mem h hn)
theorem weightsEach_mem {H : Type} {P : Program} : ∀ {ts : List TypeId} {ds : List (DataW H)} {i : Nat} {t : TypeId} {d : DataW H} {n : Nat},ts[i]? = some t → ds[i]? = some d → n ∈ d.weights P t → n ∈ DataW.weightsEach P ts ds
 | [],ds,i,t,d,n,h1,h2,h3 => by simp at h1
 | u :: ts,[],i,t,d,n,h1,h2,h3 => by simp at h2
 | u :: ts,x :: ds,0,t,d,n,h1,h2,h3 => by
   simp at h1 h2
   subst h1; subst h2
   simp [DataW.weightsEach,h3]
 | u :: ts,x :: ds,i + 1,t,d,n,h1,h2,h3 => by
   simp only [DataW.weightsEach,List.mem_append]
   exact .inr (weightsEach_mem (by simpa using h1) (by simpa using h2) h3)
theorem DRep.small {H : Type} {P : Program} {M : Nat} {ts : List TypeId} (hf : fineTs P ts = true) (hb : bytesFine P ts = true) {t : TypeId} {d : DataW H} {xs : List AV} (h : DRep P t d xs) :
 t ∈ ts → (∀ n,n ∈ d.weights P t → n ≤ M) → ∀ x,x ∈ xs → AV.Small M x := by
 induction h with
 | bool t b hu => intro ht _ x hx; simp at hx; subst hx; exact .bool b
 | int t k n hu _ => intro ht _ x hx; simp at hx; subst hx; exact .int k n
 | str t s hu =>
   intro ht hw x hx
   simp at hx
   subst hx
   exact .str s (hw _ (by simp [DataW.weights]))
 | nil t e hu => intro ht _ x hx; simp at hx; subst hx; exact .sl [] (Nat.zero_le _) (by simp)
 | slice t e ds sp ys hu hl _ ih =>
   intro ht hw x hx
   simp at hx
   subst hx
   have hpos : 0 < P.bytesOf e := by
    have := List.all_eq_true.1 hb t ht
    rw [hu] at this
    simpa using this
   have he : e ∈ ts := by
    have := (fine_get hf ht).2
    unfold fineT at this
    rw [hu] at this
    simp only [Bool.and_eq_true,List.contains_iff_mem] at this
    exact this.1
   simp only [DataW.weights,hu] at hw
   refine .sl ys ?_ fun zs hz y hy => ?_
   ·have := hw _ List.mem_cons_self
    have h2 : (ds.length + sp.length) * 1 ≤ (ds.length + sp.length) * P.bytesOf e := Nat.mul_le_mul_left _ hpos
    omega
   ·obtain ⟨i,hi⟩ := List.getElem?_of_mem hz
    have hlt : i < ds.length := by rw [hl]; exact (List.getElem?_eq_some_iff.1 hi).1
    refine ih i _ zs (List.getElem?_eq_getElem hlt) hi he (fun n hn => hw n ?_) y hy
    exact List.mem_cons_of_mem _ (List.mem_append_left _ (weightsAll_mem (List.getElem_mem hlt) hn))
 | struct t fs ds pieces hu hl hp _ ih =>
   intro ht hw x hx
   obtain ⟨piece,hpm,hxp⟩ := List.mem_flatten.1 hx
   obtain ⟨i,hi⟩ := List.getElem?_of_mem hpm
   have hlt : i < ds.length := by have := (List.getElem?_eq_some_iff.1 hi).1; omega
   have hlf : i < fs.toList.length := by omega
   have he : (fs.toList[i]).type ∈ ts := by
    have := (fine_get hf ht).2
    unfold fineT at this
    rw [hu] at this
    have := List.all_eq_true.1 this _ (List.getElem_mem hlf)
    simpa using this
   simp only [DataW.weights,hu] at hw
   exact ih i _ _ piece (List.getElem?_eq_getElem hlf) (List.getElem?_eq_getElem hlt) hi he (fun n hn => hw n (weightsEach_mem (t := (fs.toList[i]).type) (by rw [List.getElem?_map,List.getElem?_eq_getElem hlf]; rfl) (List.getElem?_eq_getElem hlt) hn)) x hxp
 | arr t e n ds pieces hu hl hp _ ih =>
   intro ht hw x hx
   obtain ⟨piece,hpm,hxp⟩ := List.mem_flatten.1 hx
   obtain ⟨i,hi⟩ := List.getElem?_of_mem hpm
   have hlt : i < ds.length := by have := (List.getElem?_eq_some_iff.1 hi).1; omega
   have he : e ∈ ts := by
    have := (fine_get hf ht).2
    unfold fineT at this
    rw [hu] at this
    simpa using this
   simp only [DataW.weights,hu] at hw
   exact ih i _ piece (List.getElem?_eq_getElem hlt) hi he (fun n hn => hw n (weightsAll_mem (List.getElem_mem hlt) hn)) x hxp
theorem AV.Small.str_inv {M : Nat} {s : List UInt8} (h : AV.Small M (.str s)) : s.length ≤ M := by cases h; assumption
theorem AV.Small.sl_inv {M : Nat} {xs : List (List AV)} (h : AV.Small M (.sl xs)) : xs.length ≤ M ∧ ∀ ys,ys ∈ xs → ∀ y,y ∈ ys → AV.Small M y := by cases h; exact ⟨by assumption,by assumption⟩
theorem laid_mem {P : Program} {W : World} {n : String} {d : DataW Unit} : ∀ {l : List (String × DataW Unit)} {ps : List MemPlace},DataW.LaidVars P W l ps → (n,d) ∈ l →
 ∃ g t cs fuel p,P.globalNamed n = some g ∧ (P.globals[g]?).map (·.type) = some t ∧ W.var? P n = some cs ∧ DataW.trod (fun _ => ()) P W 0 (fun _ => true) false fuel t cs.toList = some (d,p)
 | (m,e) :: l,ps,⟨g,t,cs,fuel,p,q,h1,h2,h3,h4,h5,h6⟩,h => by
   rcases List.mem_cons.1 h with h | h
   ·cases h
    exact ⟨g,t,cs,fuel,p,h1,h2,h3,h4⟩
   ·exact laid_mem h5 h
theorem tab_mem {P : Program} {W : World} {l : List (String × DataW Unit)} {name : String} {k : IntKind} {zs : List Int} {g : Nat} {t e : TypeId} {n : Nat}
 (hg : P.globalNamed name = some g) (hty : (P.globals[g]?).map (·.type) = some t) (ht : P.underlying t = some (.array n e)) (he : P.underlying e = some (.int k)) (hce : P.cellsOf e = 1) (hct : P.cellsOf t = n)
 (h : laidMet P l W) (hm : (name,Lib.tabData k zs) ∈ l) : Lib.TabIs P W name k zs := by
 obtain ⟨ps,hl,_⟩ := h
 obtain ⟨g',t',cs,fuel,p,hg',ht',hvar,hd⟩ := laid_mem hl hm
 obtain rfl := Option.some.inj (hg.symm.trans hg')
 obtain rfl := Option.some.inj (hty.symm.trans ht')
 unfold Lib.TabIs
 rw [hvar,← Lib.cells_of_tab ht he hce hct hd]
theorem laid_lt {P : Program} {W : World} {l : List (String × DataW Unit)} {name : String} {d : DataW Unit} {g : Nat} (hg : P.globalNamed name = some g) (h : laidMet P l W) (hm : (name,d) ∈ l) : g < W.heap.size := by
 obtain ⟨ps,hl,_⟩ := h
 obtain ⟨g',t',cs,fuel,p,hg',ht',hvar,hd⟩ := laid_mem hl hm
 obtain rfl := Option.some.inj (hg.symm.trans hg')
 unfold World.var? at hvar
 rw [hg'] at hvar
 simp only [Option.bind_some] at hvar
 cases hh : W.heap[g]? with
 | none => rw [hh] at hvar; cases hvar
 | some o => exact (Array.getElem?_eq_some_iff.1 hh).1
theorem trodAll_len {H : Type} {enc : TypeId × Value → H} {P : Program} {w : World} {base : Nat} {held : Bool} {spare : Nat → Bool} :
 ∀ {us : List TypeId} {vs : List Value} {ds : List (DataW H)} {ps : List MemPlace},DataW.TrodAll enc P w base spare held us vs ds ps → ds.length = us.length
 | [],[],[],_,_ => rfl
 | _ :: us,_ :: vs,_ :: ds,_,⟨_,_,_,h,_⟩ => by simp [trodAll_len h]
theorem whole_len {H : Type} {enc : TypeId × Value → H} {P : Program} {ts : List TypeId} {vars : List String} {apart : Bool} {w : World} {vs : List Value} {ds gs : List (DataW H)} {ps : List MemPlace}
 (h : DataW.Whole enc P ts vars apart w vs ds gs ps) : ds.length = ts.length := by
 obtain ⟨_,_,hA,_⟩ := h
 exact trodAll_len hA
theorem whole_none {H : Type} {enc : TypeId × Value → H} {P : Program} {ts : List TypeId} {apart : Bool} {w : World} {vs : List Value} {ds gs : List (DataW H)} {ps : List MemPlace}
 (h : DataW.Whole enc P ts [] apart w vs ds gs ps) : gs = [] := by
 obtain ⟨_,_,_,hV,_⟩ := h
 exact (trodVars_none hV).1
theorem weight_of {H : Type} {P : Program} {ts us : List TypeId} {ds gs : List (DataW H)} (h : (DataW.weightsEach P (ts ++ us) (ds ++ gs)).all (· ≤ reachBytes) = true) {i : Nat} {t : TypeId} {d : DataW H} (h1 : ts[i]? = some t) (h2 : ds[i]? = some d) :
 ∀ n,n ∈ d.weights P t → n ≤ reachBytes := fun n hn => by
 have l1 : i < ts.length := (List.getElem?_eq_some_iff.1 h1).1
 have l2 : i < ds.length := (List.getElem?_eq_some_iff.1 h2).1
 have := List.all_eq_true.1 h n (weightsEach_mem (i := i) (t := t) (d := d) (by rw [List.getElem?_append_left l1,h1]) (by rw [List.getElem?_append_left l2,h2]) hn)
 simpa using this
end Qv

end

section
namespace Qv
open Go Go.RowKit
theorem det_al {e : Bool} {f : Bool → FV} {K : FV → Prop} (h : Al fun t : Bool => t = e → K (f t)) : ∃ v,(Al fun t : Bool => t = e → f t = v) ∧ K v :=
 ⟨f e,⟨fun t ht => ht ▸ rfl⟩,h.out e rfl⟩
theorem det_ret {x : FV} {K : FV → Prop} (h : K x) : ∃ v,x = v ∧ K v := ⟨x,rfl,h⟩
theorem det_force {x : FV} {K : FV → Prop} (h : force x K) : ∃ v,force x (fun u => u = v) ∧ K v := by
 rw [force_eq] at h
 exact ⟨x,by rw [force_eq],h⟩
theorem det_int {op : BinOp} {k : IntKind} {a b : Int} {K : FV → Prop} (h : evInt op k a b K) : ∃ v,evInt op k a b (fun u => u = v) ∧ K v := by
 unfold evInt at h ⊢
 cases op <;> first | exact det_al h | exact h.elim | (obtain ⟨c,h1,h2⟩ := h; exact ⟨_,⟨c,h1,rfl⟩,h2⟩) | (obtain ⟨h0,c,h1,h2⟩ := h; exact ⟨_,⟨h0,c,h1,rfl⟩,h2⟩)
theorem det_str {op : BinOp} {a b : List UInt8} {K : FV → Prop} (h : evStr op a b K) : ∃ v,evStr op a b (fun u => u = v) ∧ K v := by
 unfold evStr at h ⊢
 cases op <;> first | exact det_al h | exact h.elim | (obtain ⟨h0,h1⟩ := h; exact ⟨_,⟨h0,rfl⟩,h1⟩)
theorem det_load {C : Ctx} {objs : List (Nat × List FV)} {t : TypeId} {a : FV} {K : FV → Prop} (h : evLoad C objs t a K) : ∃ v,evLoad C objs t a (fun u => u = v) ∧ K v := by
 unfold evLoad at h ⊢
 repeat' split at h
 all_goals first
  | exact h.elim
  | exact det_ret h
  | skip
 all_goals
  obtain ⟨A,ys,B,e1,e2,h⟩ := h
  repeat' split at h
 all_goals first
  | exact h.elim
  | exact ⟨_,⟨A,ys,B,e1,e2,by simp_all⟩,h⟩
theorem det_fieldAddr {C : Ctx} {s : TypeId} {x : FV} {f : Nat} {K : FV → Prop} (h : evFieldAddr C s x f K) : ∃ v,evFieldAddr C s x f (fun u => u = v) ∧ K v := by
 unfold evFieldAddr at h ⊢
 repeat' split at h
 all_goals first
  | exact h.elim
  | exact det_ret h
theorem det_field {C : Ctx} {s : TypeId} {x : FV} {f : Nat} {K : FV → Prop} (h : evField C s x f K) : ∃ v,evField C s x f (fun u => u = v) ∧ K v := by
 unfold evField at h ⊢
 repeat' split at h
 all_goals first
  | exact h.elim
  | exact det_ret h
theorem det_index {C : Ctx} {t : TypeId} {x i : FV} {K : FV → Prop} (h : evIndex C t x i K) : ∃ v,evIndex C t x i (fun u => u = v) ∧ K v := by
 unfold evIndex at h ⊢
 repeat' split at h
 all_goals first
  | exact h.elim
  | (obtain ⟨h0,c,h1,h2⟩ := h; exact ⟨_,⟨h0,c,h1,rfl⟩,h2⟩)
  | skip
 all_goals
  obtain ⟨m,e1,e2,h⟩ := h
  repeat' split at h
 all_goals first
  | exact h.elim
  | exact ⟨_,⟨m,e1,e2,by simp_all⟩,h⟩
theorem det_indexAddr {C : Ctx} {objs : List (Nat × List FV)} {t : TypeId} {x i : FV} {K : FV → Prop} (h : evIndexAddr C objs t x i K) : ∃ v,evIndexAddr C objs t x i (fun u => u = v) ∧ K v := by
 unfold evIndexAddr at h ⊢
 repeat' split at h
 all_goals first
  | exact h.elim
  | (obtain ⟨m,base,e1,e2,e3,h⟩ := h; exact ⟨_,⟨m,base,e1,e2,e3,rfl⟩,h⟩)
  | (obtain ⟨g0,ys,g1,g2,h⟩ := h; exact ⟨_,⟨g0,ys,g1,g2,rfl⟩,h⟩)
  | skip
 all_goals
  obtain ⟨m,e1,e2,h⟩ := h
  repeat' split at h
 all_goals first
  | exact h.elim
  | (obtain ⟨base,g1,h⟩ := h; exact ⟨_,⟨m,e1,e2,base,g1,rfl⟩,h⟩)
  | (obtain ⟨ys,g1,h⟩ := h; exact ⟨_,⟨m,e1,e2,ys,g1,rfl⟩,h⟩)
  | skip
 all_goals
  obtain ⟨sym,h⟩ := h
  cases sym
 ·exact ⟨_,⟨m,e1,e2,false,rfl⟩,h⟩
 ·obtain ⟨base,g1,h⟩ := h
  exact ⟨_,⟨m,e1,e2,true,base,g1,rfl⟩,h⟩
theorem det_binA {C : Ctx} {t : TypeId} {op : BinOp} {x y : FV} {K : FV → Prop} (h : evBinA C t op x y K) : ∃ v,evBinA C t op x y (fun u => u = v) ∧ K v := by
 unfold evBinA at h ⊢
 repeat' split at h
 all_goals first
  | exact h.elim
  | skip
 all_goals
  obtain ⟨L,e1,e2,e3,e4,h⟩ := h
  repeat' split at h
 all_goals first
  | exact h.elim
  | (obtain ⟨v,g1,g2⟩ := det_al h; exact ⟨v,⟨L,e1,e2,e3,e4,g1⟩,g2⟩)
theorem det_bin {C : Ctx} {t : TypeId} {op : BinOp} {x y : FV} {K : FV → Prop} (h : evBin C t op x y K) : ∃ v,evBin C t op x y (fun u => u = v) ∧ K v := by
 unfold evBin at h ⊢
 repeat' split at h
 all_goals first
  | exact h.elim
  | exact det_int h
  | exact det_str h
  | exact det_ret h
  | exact det_al h
  | exact det_binA h
theorem det_nilI {C : Ctx} {t : TypeId} {op : BinOp} {x : FV} {K : FV → Prop} (h : evNilI C t op x K) : ∃ v,evNilI C t op x (fun u => u = v) ∧ K v := by
 unfold evNilI at h ⊢
 repeat' split at h
 all_goals first
  | exact h.elim
  | exact det_ret h
theorem det_un {op : UnOp} {x : FV} {K : FV → Prop} (h : evUn op x K) : ∃ v,evUn op x (fun u => u = v) ∧ K v := by
 unfold evUn at h ⊢
 repeat' split at h
 all_goals first
  | exact h.elim
  | exact det_al h
  | (obtain ⟨c,h1,h2⟩ := h; exact ⟨_,⟨c,h1,rfl⟩,h2⟩)
theorem det_builtin {C : Ctx} {objs : List (Nat × List FV)} {b : Builtin} {args : List FV} {types : List TypeId} {K : FV → Prop} (h : evBuiltinV C objs b args types K) : ∃ v,evBuiltinV C objs b args types (fun u => u = v) ∧ K v := by
 unfold evBuiltinV at h ⊢
 repeat' split at h
 all_goals first
  | exact h.elim
  | exact det_ret h
  | (obtain ⟨c,h1,h2⟩ := h; exact ⟨_,⟨c,h1,rfl⟩,h2⟩)
  | (obtain ⟨c,h1,h2⟩ := h; exact ⟨_,⟨c,by simp_all <;> omega,rfl⟩,h2⟩)
def evCall1 (C : Ctx) (f : FV) (args : List FV) (K : FV → Prop) : Prop :=
 match f with
 | .p (.fn (.func g) first captured) => match FV.toAVs args with
   | some xs => ∃ x,CallsTo C g (first ++ xs ++ captured) (fun r => r = .val x) ∧ K (.p x)
   | none => False
 | .fn (.func g) first captured => match FV.toAVs (first ++ args ++ captured) with
   | some xs => ∃ x,CallsTo C g xs (fun r => r = .val x) ∧ K (.p x)
   | none => False
 | _ => False
theorem det_call {C : Ctx} {f : FV} {args : List FV} {K : FV → Prop} (h : evCall1 C f args K) : ∃ v,evCallV C f args (fun u => u = v) ∧ K v := by
 unfold evCall1 at h
 split at h
 ·simp only [evCallV]
  split at h
  ·rename_i xs hx
   simp only [hx]
   obtain ⟨x,h1,h2⟩ := h
   exact ⟨_,⟨_,h1,fun r hr => by subst hr; rfl⟩,h2⟩
  ·exact h.elim
 ·simp only [evCallV]
  split at h
  ·rename_i xs hx
   simp only [hx]
   obtain ⟨x,h1,h2⟩ := h
   exact ⟨_,⟨_,h1,fun r hr => by subst hr; rfl⟩,h2⟩
  ·exact h.elim
 ·exact h.elim
def evV2 (C : Ctx) (S : ASt) (op : Op) (K : FV → Prop) : Prop := match op with
 | .move x => force (S.val x) K
 | .assign x => force (S.val x) K
 | .pick c a b => match S.val c with
   | .p (.bool true) => force (S.val a) K
   | .p (.bool false) => force (S.val b) K
   | _ => False
 | .binOp op t x y _ => match isNilI y with
   | true => evNilI C t op (S.val x) K
   | false => evBin C t op (S.val x) (S.val y) K
 | .unOp op _ x => evUn op (S.val x) K
 | .load t a => evLoad C S.objs t (S.val a) K
 | .fieldAddr s x f => evFieldAddr C s (S.val x) f K
 | .field s x f => evField C s (S.val x) f K
 | .indexAddr t x i => evIndexAddr C S.objs t (S.val x) (S.val i) K
 | .index t x i => evIndex C t (S.val x) (S.val i) K
 | .call c => match c.callee with
   | .builtin b => evBuiltinV C S.objs b (c.args.toList.map S.val) c.argTypes.toList K
   | .value f => evCall1 C (S.val f) (c.args.toList.map S.val) K
   | .invoke _ _ => False
 | .nilCheck x => match S.val x with
   | .ptr b off => K (.ptr b off)
   | .p (.imp xs) => K (.p (.imp xs))
   | .eptr o base off => K (.eptr o base off)
   | .p (.fn (.func f) a b) => K (.p (.fn (.func f) a b))
   | .fn (.func f) a b => K (.fn (.func f) a b)
   | _ => False
 | .extract x i => match S.val x with
   | .tup xs => match dropN i xs with
     | y :: _ => K y
     | [] => False
   | .p (.tup xs) => match dropN i xs with
     | y :: _ => K (.p y)
     | [] => False
   | _ => False
 | op => ∃ v,evVal C S op (fun u => u = v) ∧ K v
theorem det_val {C : Ctx} {S : ASt} {op : Op} {K : FV → Prop} (h : evV2 C S op K) : ∃ v,evVal C S op (fun u => u = v) ∧ K v := by
 unfold evV2 at h
 split at h
 ·exact det_force h
 ·exact det_force h
 ·simp only [evVal]
  split at h
  ·rename_i hc
   simp only [hc]
   exact det_force h
  ·rename_i hc
   simp only [hc]
   exact det_force h
  ·exact h.elim
 ·simp only [evVal]
  split at h
  ·rename_i hc
   simp only [hc]
   exact det_nilI h
  ·rename_i hc
   simp only [hc]
   exact det_bin h
 ·exact det_un h
 ·exact det_load h
 ·exact det_fieldAddr h
 ·exact det_field h
 ·exact det_indexAddr h
 ·exact det_index h
 ·simp only [evVal]
  split at h
  ·rename_i hc
   simp only [hc]
   exact det_builtin h
  ·rename_i hc
   simp only [hc]
   exact det_call h
  ·exact h.elim
 ·simp only [evVal]
  split at h
  all_goals first
   | exact h.elim
   | (rename_i hc; simp only [hc]; exact det_ret h)
 ·simp only [evVal]
  split at h
  ·rename_i hc
   simp only [hc]
   split at h
   ·rename_i hd
    simp only [hd]
    exact det_ret h
   ·exact h.elim
  ·rename_i hc
   simp only [hc]
   split at h
   ·rename_i hd
    simp only [hd]
    exact det_ret h
   ·exact h.elim
  ·exact h.elim
 ·exact h
def evS2 (C : Ctx) (o : Oper) (K : ASt → Prop) (S : ASt) : Prop := evV2 C S o.op fun v => K (S.put o.dst v)
def evQ2 (C : Ctx) (ops : Array Oper) : List Oper → (ASt → Prop) → ASt → Prop
 | [],K,S => K S
 | o :: rest,K,S => match o.guard with
   | none => evS2 C o (evQ2 C ops rest K) S
   | some (j,want) => match (ops[j]?).bind (·.dst) with
     | none => False
     | some d => match S.get d with
       | .p (.bool b) => match sameB b want with
         | true => evS2 C o (evQ2 C ops rest K) S
         | false => evQ2 C ops rest K (S.put o.dst (.p (.tup [])))
       | .p (.tup []) => evQ2 C ops rest K (S.put o.dst (.p (.tup [])))
       | _ => False
theorem evQ_of {C : Ctx} {ops : Array Oper} {K : ASt → Prop} : ∀ (l : List Oper) (S : ASt),evQ2 C ops l K S → evQ C ops l K S
 | [],S,h => h
 | o :: rest,S,h => by
   unfold evQ2 at h
   unfold evQ
   split at h
   ·rename_i hg
    simp only [hg]
    unfold evS2 at h
    obtain ⟨v,h1,h2⟩ := det_val h
    exact ⟨v,h1,evQ_of rest _ h2⟩
   ·rename_i j want hg
    simp only [hg]
    split at h
    ·exact h.elim
    ·rename_i d hd
     simp only [hd]
     split at h
     ·rename_i b hb
      simp only [hb]
      split at h
      ·rename_i hs
       simp only [hs]
       unfold evS2 at h
       obtain ⟨v,h1,h2⟩ := det_val h
       exact ⟨v,h1,evQ_of rest _ h2⟩
      ·rename_i hs
       simp only [hs]
       exact evQ_of rest _ h
     ·rename_i hb
      simp only [hb]
      exact evQ_of rest _ h
     ·exact h.elim
theorem lex2 {C : Ctx} {call : CallH} {Y : Yld} {ops : Array Oper} {K : ASt → Prop} {S : ASt} (m : Nat) (hd : drawOK ops m = true)
 (h : evQ2 C ops (ops.toList.take m) (evOps C call Y ops (ops.toList.drop m) K) S) : evRegion C call Y ops true K S := by
 unfold evRegion
 exact ⟨.lex m,hd,evQ_of _ _ h⟩
theorem keepV {C : Ctx} {call : CallH} {Y : Yld} {ops : Array Oper} {K : ASt → Prop} {S : ASt} (x : FV) (d : Nat) (hd : drawOK ops ops.size = true) (hk : keptOf ops.toList = [d])
 (h : evQ2 C ops ops.toList (fun S' => S'.get d = x) S) (hK : K ((S.junked (dstsOf ops.toList)).put (some d) x)) : evRegion C call Y ops true K S := by
 unfold evRegion
 refine ⟨.keep (fun vs => vs = [x]),hd,?_,?_⟩
 ·refine evQ_of _ _ ?_
  have e : (fun S' : ASt => getAll S' (keptOf ops.toList) = [x]) = fun S' => S'.get d = x := by
   funext S'
   rw [hk]
   show ([S'.get d] = [x]) = _
   rw [List.cons.injEq]
   simp
  rw [e]
  exact h
 ·rw [hk]
  exact ⟨fun v => ⟨fun hv => by
   have : v = x := (List.cons.inj hv).1
   subst this
   exact hK⟩⟩
theorem keepA {C : Ctx} {ops : Array Oper} {K : ASt → Prop} {S : ASt} (x : FV) (d : Nat) (hk : keptOf ops.toList = [d])
 (h : evQ2 C ops ops.toList (fun S' => S'.get d = x) S) (hK : K ((S.junked (dstsOf ops.toList)).put (some d) x)) :
 evQ C ops ops.toList (fun S' => getAll S' (keptOf ops.toList) = [x]) S ∧ evKeep K (S.junked (dstsOf ops.toList)) (keptOf ops.toList) (fun vs => vs = [x]) := by
 refine ⟨?_,?_⟩
 ·refine evQ_of _ _ ?_
  have e : (fun S' : ASt => getAll S' (keptOf ops.toList) = [x]) = fun S' => S'.get d = x := by
   funext S'
   rw [hk]
   show ([S'.get d] = [x]) = _
   rw [List.cons.injEq]
   simp
  rw [e]
  exact h
 ·rw [hk]
  exact ⟨fun v => ⟨fun hv => by
   have : v = x := (List.cons.inj hv).1
   subst this
   exact hK⟩⟩
end Qv

end

section
namespace Qv
open Go Go.RowKit
def toF (l : List (AV × AV)) : List (AV × FV) := l.map fun p => (p.1,.p p.2)
theorem updM_toF (k x : AV) : ∀ l : List (AV × AV),updM k (FV.p x) (toF l) = toF (updM k x l)
 | [] => rfl
 | (k',y) :: l => by
   show (match sameA k k' with | true => _ | false => _) = toF (match sameA k k' with | true => _ | false => _)
   cases sameA k k' with
   | true => rfl
   | false => show (k',FV.p y) :: updM k (FV.p x) (toF l) = (k',FV.p y) :: toF (updM k x l); rw [updM_toF k x l]
theorem updM_mem {k x : AV} {p : AV × AV} : ∀ {l : List (AV × AV)},p ∈ updM k x l → p = (k,x) ∨ p ∈ l
 | [],h => .inl (List.mem_singleton.1 h)
 | (k',y) :: l,h => by
   unfold updM at h
   split at h
   ·rcases List.mem_cons.1 h with h | h
    ·exact .inl h
    ·exact .inr (List.mem_cons_of_mem _ h)
   ·rcases List.mem_cons.1 h with h | h
    ·exact .inr (h ▸ List.mem_cons_self)
    ·exact (updM_mem h).imp id (List.mem_cons_of_mem _)
theorem keys_toF : ∀ l : List (AV × AV),keysOf (toF l) = l.map Prod.fst
 | [] => rfl
 | p :: l => by show p.1 :: keysOf (toF l) = _; rw [keys_toF l]; rfl
theorem vals_toF : ∀ l : List (AV × AV),FV.toAVs (valsOf (toF l)) = some (l.map Prod.snd)
 | [] => rfl
 | p :: l => by
   show FV.toAVs (FV.p p.2 :: valsOf (toF l)) = _
   unfold FV.toAVs
   rw [vals_toF l]
   rfl
theorem zip_toF : ∀ l : List (AV × AV),zipA (l.map Prod.fst) (l.map Prod.snd) = l
 | [] => rfl
 | p :: l => by show (p.1,p.2) :: zipA _ _ = _; rw [zip_toF l]
def seaS (n : Nat) (objs : List (Nat × List FV)) (T : Nat → FV) (M : List (Nat × List (AV × FV))) : ASt :=
 { n := n,off := 0,tmps := T,objs := objs,susp := [],pend := [],blds := [],maps := M,its := [] }
section
variable {C : Ctx} {call : CallH} {Y : Yld} {ops : Array Oper}
def Written (ops : Array Oper) (listed : Array Bool) (d : Nat) : Prop := ∀ (k : Nat) (o : Oper),ops[k]? = some o → o.dst = some d → listed.getD k false = true
def MapAt (mp : Nat) (good : AV × AV → Prop) (M : List (Nat × List (AV × FV))) : Bool → Prop
 | true => ∃ l : List (AV × AV),(∀ p,p ∈ l → good p) ∧ M = [(mp,toF l)]
 | false => M = []
def SeaJ (ops : Array Oper) (n : Nat) (objs : List (Nat × List FV)) (V : Nat → FV) (mp last : Nat) (good : AV × AV → Prop) (Kend : ASt → Prop) (listed : Array Bool) (S : ASt) : Prop :=
 Closed ops listed ∧ match listed.getD last false with
  | true => Kend S
  | false => ∃ T M,S = seaS n objs T M ∧ (∀ d,Written ops listed d → T d = V d) ∧ MapAt mp good M (listed.getD 0 false)
theorem ready_lt {listed : Array Bool} {k : Nat} (h : k ∈ Region.ready .any ops listed) : k < listed.size := by
 obtain ⟨h0,-⟩ := mem_ready.1 h
 rcases Nat.lt_or_ge k listed.size with h | h
 ·exact h
 ·rw [Array.getD_eq_getD_getElem?,Array.getElem?_eq_none h] at h0
  cases h0
theorem getD_set_same {listed : Array Bool} {k : Nat} (h : k < listed.size) (d : Bool) : (listed.setIfInBounds k true).getD k d = true := by
 rw [Array.getD_eq_getD_getElem?,Array.getElem?_setIfInBounds]
 simp [h]
theorem sea_region {K : ASt → Prop} {S : ASt} (c : Kinds) (n : Nat) (objs : List (Nat × List FV)) (V : Nat → FV) (mp last : Nat) (good : AV × AV → Prop)
 (hne : last ≠ 0) (hlast : ∃ o : Oper,ops[last]? = some o) (hback : ∀ (k : Nat) (o : Oper),ops[k]? = some o → ∀ e : Edge,e ∈ o.after → Region.binds .any e = true → e.on < k)
 (hS : ∃ T,S = seaS n objs T [] ∧ ∀ d,(∀ (k : Nat) (o : Oper),ops[k]? = some o → o.dst = some d → False) → T d = V d)
 (hsrc : ∀ (k : Nat) (o : Oper),ops[k]? = some o → ∀ i : Nat,Operand.tmp i ∈ o.op.operands → ∀ (j : Nat) (oj : Oper),ops[j]? = some oj → oj.dst = some i → ∃ e : Edge,e ∈ o.after ∧ Region.binds .any e = true ∧ e.on = j)
 (hq : ∀ (k : Nat) (o : Oper),ops[k]? = some o → c.of k = 0 → k ≠ 0 ∧ k ≠ last ∧ o.guard = none ∧ ∃ d,o.dst = some d ∧ (evVal C (seaS n objs V []) o.op fun u => u = V d) ∧ (∀ t x i ok,o.op ≠ .lookup t x i ok) ∧ ∀ it,o.op ≠ .entry it)
 (hk : ∀ T,(seaS n objs T []).kill mp = seaS n objs (fun i => (T i).kill mp) [])
 (hV : ∀ d,(V d).kill mp = V d ∨ d = mp ∨ ∃ (j : Nat) (oj : Oper) (e : Edge),ops[j]? = some oj ∧ oj.dst = some d ∧ e ∈ oj.after ∧ Region.binds .any e = true ∧ e.on = 0)
 (hs : ∀ (k : Nat) (o : Oper),ops[k]? = some o → c.of k ≠ 0 → k ≠ last → ∀ T M (Kn : ASt → Prop),(∀ i : Nat,Operand.tmp i ∈ o.op.operands → T i = V i) →
  (k = 0 → M = [] → o.dst = some mp ∧ V mp = .mapr mp ∧ ((∀ T',(∀ d,d ≠ mp → T' d = (T d).kill mp) → T' mp = .mapr mp → Kn (seaS n objs T' [(mp,[])])) → evStep C call Y ops c k Kn (seaS n objs T M))) ∧
  (k ≠ 0 → o.dst = none ∧ (∃ e : Edge,e ∈ o.after ∧ Region.binds .any e = true ∧ e.on = 0) ∧ ∀ l,M = [(mp,toF l)] → (∀ p,p ∈ l → good p) → (∀ l',(∀ p,p ∈ l' → good p) → Kn (seaS n objs T [(mp,toF l')])) → evStep C call Y ops c k Kn (seaS n objs T M)))
 (hall : ∀ o : Oper,ops[last]? = some o → ∃ e : Edge,e ∈ o.after ∧ Region.binds .any e = true ∧ ∃ oe : Oper,ops[e.on]? = some oe ∧ ∀ j,j < ops.size → j ≠ last → j ≠ e.on → ∃ e' : Edge,e' ∈ oe.after ∧ Region.binds .any e' = true ∧ e'.on = j)
 (hend : ∀ (o : Oper) (d0 : Nat),ops[last]? = some o → o.dst = some d0 → ∀ T l,(∀ d,d ≠ d0 → T d = V d) → (∀ p,p ∈ l → good p) → evStep C call Y ops c last K (seaS n objs T [(mp,toF l)]))
 (hlastd : ∀ o : Oper,ops[last]? = some o → ∃ d0,o.dst = some d0) :
 evRegion C call Y ops true K S := by
 refine ⟨.sea c (SeaJ ops n objs V mp last good K),?_,?_,?_⟩
 ·obtain ⟨T,rfl,hT⟩ := hS
  have hf : ∀ k,k < ops.size → (Array.replicate ops.size false).getD k false = false := fun k hk => by
   rw [Array.getD_eq_getD_getElem?,Array.getElem?_replicate,if_pos hk]
   rfl
  obtain ⟨ol,hol⟩ := hlast
  have hls := (Array.getElem?_eq_some_iff.1 hol).1
  refine ⟨⟨by simp,fun p o hp hl => ?_⟩,?_⟩
  ·have hp := (Array.getElem?_eq_some_iff.1 hp).1
   rw [hf p hp] at hl
   cases hl
  ·rw [hf last hls]
   refine ⟨T,[],rfl,fun d hw => hT d fun k o ho hd => ?_,?_⟩
   ·have h1 := hw k o ho hd
    rw [hf k (Array.getElem?_eq_some_iff.1 ho).1] at h1
    cases h1
   ·have : (Array.replicate ops.size false).getD 0 false = false := by
     rcases Nat.eq_zero_or_pos ops.size with h | h
     ·rw [h]; rfl
     ·exact hf 0 h
    rw [this]
    rfl
 ·rintro listed S' k ⟨hcl,hJ⟩ hk'
  obtain ⟨h0,o,ho,hedge⟩ := mem_ready.1 hk'
  have hun := unlisted h0
  have hsz := ready_lt hk'
  have hset := getD_set_same hsz false
  have hcl' := hcl.set hk'
  have hllast : listed.getD last false = false := by
   cases hl : listed.getD last false with
   | false => rfl
   | true =>
     exfalso
     obtain ⟨ol,hol⟩ := hlast
     obtain ⟨e,he,hb,oe,hoe,hrest⟩ := hall ol hol
     have h1 := hcl.2 last ol hol hl e he hb
     have hkl : k ≠ last := fun e => by rw [e,hl] at hun; cases hun
     by_cases hke : k = e.on
     ·rw [hke,h1] at hun; cases hun
     ·obtain ⟨e',he',hb',hon⟩ := hrest k (Array.getElem?_eq_some_iff.1 ho).1 hkl hke
      have h2 := hcl.2 e.on oe hoe h1 e' he' hb'
      rw [hon,hun] at h2
      cases h2
  rw [hllast] at hJ
  obtain ⟨T,M,rfl,hT,hM⟩ := hJ
  have hops : ∀ i,Operand.tmp i ∈ o.op.operands → T i = V i := fun i hi => hT i fun j oj hoj hd => by
   obtain ⟨e,he,hb,hon⟩ := hsrc k o ho i hi j oj hoj hd
   rw [← hon]
   exact hedge e he hb
  by_cases hkl : k = last
  ·subst hkl
   obtain ⟨d0,hd0⟩ := hlastd o ho
   obtain ⟨e,he,hb,oe,hoe,hrest⟩ := hall o ho
   have h1 := hedge e he hb
   have hall' : ∀ j,j < ops.size → j ≠ k → listed.getD j false = true := fun j hj hjk => by
    by_cases hje : j = e.on
    ·rw [hje]; exact h1
    ·obtain ⟨e',he',hb',hon⟩ := hrest j hj hjk hje
     have h2 := hcl.2 e.on oe hoe h1 e' he' hb'
     rw [hon] at h2
     exact h2
   rw [hall' 0 (by have := (Array.getElem?_eq_some_iff.1 ho).1; omega) (Ne.symm hne)] at hM
   obtain ⟨l,hl,rfl⟩ := hM
   have hfin := hend o d0 ho hd0 T l (fun d hd => hT d fun j oj hoj hjd => hall' j (Array.getElem?_eq_some_iff.1 hoj).1 fun e => by
    subst e
    rw [ho] at hoj
    obtain rfl := Option.some.inj hoj
    rw [hd0] at hjd
    exact hd (Option.some.inj hjd).symm) hl
   have hJend : SeaJ ops n objs V mp k good K (listed.setIfInBounds k true) = K := by
    funext S2
    unfold SeaJ
    rw [hset]
    exact propext ⟨fun h => h.2,fun h => ⟨hcl',h⟩⟩
   rw [hJend]
   exact hfin
  ·have hl' : (listed.setIfInBounds k true).getD last false = false := by rw [getD_set_ne false hkl]; exact hllast
   have hnext : ∀ T' M',(∀ d,Written ops (listed.setIfInBounds k true) d → T' d = V d) → MapAt mp good M' ((listed.setIfInBounds k true).getD 0 false) → SeaJ ops n objs V mp last good K (listed.setIfInBounds k true) (seaS n objs T' M') := fun T' M' h1 h2 => by
    refine ⟨hcl',?_⟩
    rw [hl']
    exact ⟨T',M',rfl,h1,h2⟩
   have hwr : ∀ d,o.dst ≠ some d → Written ops (listed.setIfInBounds k true) d → T d = V d := fun d hd hw => hT d fun j oj hoj hjd => by
    have h1 := hw j oj hoj hjd
    by_cases hjk : k = j
    ·subst hjk
     rw [ho] at hoj
     obtain rfl := Option.some.inj hoj
     exact absurd hjd hd
    ·rw [getD_set_ne false hjk] at h1
     exact h1
   by_cases hc : c.of k = 0
   ·obtain ⟨hk0,-,hg,d,hd,hv,hlk,hen⟩ := hq k o ho hc
    have hM0 : (listed.setIfInBounds k true).getD 0 false = listed.getD 0 false := getD_set_ne false hk0
    have hval : evVal C (seaS n objs T M) o.op fun u => u = V d := by
     have hcg : ∀ x,x ∈ o.op.operands → (seaS n objs T M).val x = (seaS n objs V []).val x := fun x hx => by
      cases x with
      | tmp i =>
        show (match ltB i n with | true => T i | false => FV.junk) = match ltB i n with | true => V i | false => FV.junk
        rw [hops i hx]
      | _ => rfl
     rw [evVal_congr (C := C) (S := seaS n objs V []) (S' := seaS n objs T M) (op := o.op) hcg rfl (fun t x i ok e => absurd e (hlk t x i ok)) (fun it e => absurd e (hen it))]
     exact hv
    unfold evStep
    have ho' : ops.toList[k]? = some o := by simpa using ho
    rw [ho']
    simp only [hc]
    unfold evQ
    simp only [hg]
    refine ⟨V d,hval,?_⟩
    rw [hd]
    refine hnext (fun i => match Nat.beq i d with | true => V d | false => T i) M (fun d' hw => ?_) (by rw [hM0]; exact hM)
    by_cases hdd : d' = d
    ·subst hdd
     show (match Nat.beq d' d' with | true => V d' | false => T d') = V d'
     simp
    ·have hb : Nat.beq d' d = false := by
      cases hb : Nat.beq d' d with
      | false => rfl
      | true => exact absurd (Nat.eq_of_beq_eq_true hb) hdd
     show (match Nat.beq d' d with | true => V d | false => T d') = V d'
     rw [hb]
     exact hwr d' (by rw [hd]; exact fun e => hdd (Option.some.inj e).symm) hw
   ·obtain ⟨hz,hnz⟩ := hs k o ho hc hkl T M (SeaJ ops n objs V mp last good K (listed.setIfInBounds k true)) hops
    by_cases hk0 : k = 0
    ·subst hk0
     rw [hun] at hM
     have hM : M = [] := hM
     obtain ⟨hd,hVm,hst⟩ := hz rfl hM
     refine hst fun T' h1 h2 => hnext T' _ (fun d hw => ?_) (by rw [hset]; exact ⟨[],fun p hp => (by cases hp),rfl⟩)
     by_cases hdm : d = mp
     ·rw [hdm,h2,hVm]
     ·have hTd := hwr d (by rw [hd]; exact fun e => hdm (Option.some.inj e).symm) hw
      rw [h1 d hdm,hTd]
      rcases hV d with h | h | ⟨j,oj,e,hoj,hjd,he,hb,hon⟩
      ·exact h
      ·exact absurd h hdm
      ·exfalso
       have hj := hw j oj hoj hjd
       have hj0 : j ≠ 0 := fun e0 => by
        subst e0
        rw [ho] at hoj
        obtain rfl := Option.some.inj hoj
        rw [hd] at hjd
        exact hdm (Option.some.inj hjd).symm
       rw [getD_set_ne false (Ne.symm hj0)] at hj
       have := hcl.2 j oj hoj hj e he hb
       rw [hon,hun] at this
       cases this
    ·obtain ⟨hd,⟨e,he,hb,hon⟩,hst⟩ := hnz hk0
     have h00 := hedge e he hb
     rw [hon] at h00
     have hM0 : (listed.setIfInBounds k true).getD 0 false = true := by rw [getD_set_ne false hk0]; exact h00
     rw [h00] at hM
     obtain ⟨l,hl,hMl⟩ := hM
     refine hst l hMl hl fun l' hl' => hnext T _ (fun d hw => hwr d (by rw [hd]; exact fun e => by cases e) hw) (by rw [hM0]; exact ⟨l',hl',rfl⟩)
 ·rintro listed S' ⟨hcl,hJ⟩ hr
  obtain ⟨ol,hol⟩ := hlast
  cases hl : listed.getD last false with
  | true => rw [hl] at hJ; exact hJ
  | false =>
    exfalso
    have hall' : ∀ m k,k < m → k < ops.size → listed.getD k false = true := by
     intro m
     induction m with
     | zero => intro k hk; omega
     | succ m ih =>
       intro k hk hks
       cases hlk : listed.getD k false with
       | true => rfl
       | false =>
         exfalso
         have hkl : k < listed.size := by rw [hcl.1]; exact hks
         have hkt : listed.getD k true = false := by
          rw [Array.getD_eq_getD_getElem?,Array.getElem?_eq_getElem hkl] at hlk ⊢
          exact hlk
         have hin : k ∈ Region.ready .any ops listed := mem_ready.2 ⟨hkt,ops[k],Array.getElem?_eq_getElem hks,fun e he hb => by
          have hlt := hback k ops[k] (Array.getElem?_eq_getElem hks) e he hb
          exact ih e.on (by omega) (by omega)⟩
         rw [hr] at hin
         cases hin
    rw [hall' (last + 1) last (Nat.lt_succ_self _) (Array.getElem?_eq_some_iff.1 hol).1] at hl
    cases hl
end
end Qv

end

section
namespace Qv
open Go Go.RowKit
def memEdge (j : Nat) : List Edge → Bool
 | [] => false
 | e :: es => match Region.binds .any e with
   | true => match Nat.beq e.on j with
     | true => true
     | false => memEdge j es
   | false => memEdge j es
theorem memEdge_spec {j : Nat} : ∀ {es : List Edge},memEdge j es = true → ∃ e,e ∈ es ∧ Region.binds .any e = true ∧ e.on = j
 | e :: es,h => by
   unfold memEdge at h
   split at h
   ·rename_i hb
    split at h
    ·rename_i hj
     exact ⟨e,List.mem_cons_self,hb,Nat.eq_of_beq_eq_true hj⟩
    ·obtain ⟨e',h1,h2⟩ := memEdge_spec h
     exact ⟨e',List.mem_cons_of_mem _ h1,h2⟩
   ·obtain ⟨e',h1,h2⟩ := memEdge_spec h
    exact ⟨e',List.mem_cons_of_mem _ h1,h2⟩
def chkDst (i : Nat) (after : List Edge) : Nat → List Oper → Bool
 | _,[] => true
 | j,oj :: os => match oj.dst with
   | none => chkDst i after (j + 1) os
   | some d => match Nat.beq d i with
     | false => chkDst i after (j + 1) os
     | true => match memEdge j after with
       | true => chkDst i after (j + 1) os
       | false => false
theorem chkDst_spec {i : Nat} {after : List Edge} {os : List Oper} : ∀ (n : Nat),chkDst i after n os = true → ∀ (k : Nat) (o : Oper),os[k]? = some o → o.dst = some i → memEdge (n + k) after = true := by
 induction os with
 | nil => intro n h k o hk; cases hk
 | cons o os ih =>
   intro n h k o' hk
   cases k with
   | zero =>
     obtain rfl : o = o' := Option.some.inj hk
     intro hd
     unfold chkDst at h
     rw [hd] at h
     simp only at h
     split at h
     ·rename_i hb
      simp at hb
     ·split at h
      ·rename_i hm
       exact hm
      ·cases h
   | succ k =>
     have hk : os[k]? = some o' := hk
     intro hd
     have rest : chkDst i after (n + 1) os = true := by
      unfold chkDst at h
      split at h
      ·exact h
      ·split at h
       ·exact h
       ·split at h
        ·exact h
        ·cases h
     have := ih (n + 1) rest k o' hk hd
     rw [show n + (k + 1) = n + 1 + k by omega]
     exact this
def chkOpnds (after : List Edge) (l : List Oper) : List Operand → Bool
 | [] => true
 | z :: zs => match z with
   | .tmp i => match chkDst i after 0 l with
     | true => chkOpnds after l zs
     | false => false
   | _ => chkOpnds after l zs
theorem chkOpnds_spec {after : List Edge} {l : List Oper} {i : Nat} : ∀ {zs : List Operand},chkOpnds after l zs = true → Operand.tmp i ∈ zs → chkDst i after 0 l = true
 | z :: zs,h,hm => by
   unfold chkOpnds at h
   rcases List.mem_cons.1 hm with rfl | hm
   ·simp only at h
    split at h
    ·assumption
    ·cases h
   ·have rest : chkOpnds after l zs = true := by
     split at h
     ·split at h
      ·exact h
      ·cases h
     ·exact h
    exact chkOpnds_spec rest hm
def chkSrc (l : List Oper) : List Oper → Bool
 | [] => true
 | o :: os => match chkOpnds o.after.toList l o.op.operands.toList with
   | true => chkSrc l os
   | false => false
theorem chkSrc_spec {l os : List Oper} (h : chkSrc l os = true) : ∀ (k : Nat) (o : Oper),os[k]? = some o → chkOpnds o.after.toList l o.op.operands.toList = true := by
 revert h
 suffices H : ∀ (n : Nat),chkSrc l os = true → ∀ (k : Nat) (o : Oper),os[k]? = some o → chkOpnds o.after.toList l o.op.operands.toList = true from H 0
 induction os with
 | nil => intro n h k o hk; cases hk
 | cons o os ih =>
   intro n h k o' hk
   cases k with
   | zero =>
     obtain rfl : o = o' := Option.some.inj hk
     unfold chkSrc at h
     split at h
     ·assumption
     ·cases h
   | succ k =>
     have hk : os[k]? = some o' := hk
     have rest : chkSrc l os = true := by
      unfold chkSrc at h
      split at h
      ·exact h
      ·cases h
     exact ih n rest k o' hk
theorem src_of {ops : Array Oper} (h : chkSrc ops.toList ops.toList = true) : ∀ (k : Nat) (o : Oper),ops[k]? = some o → ∀ i : Nat,Operand.tmp i ∈ o.op.operands → ∀ (j : Nat) (oj : Oper),ops[j]? = some oj → oj.dst = some i → ∃ e : Edge,e ∈ o.after ∧ Region.binds .any e = true ∧ e.on = j := by
 intro k o hk i hi j oj hj hd
 have h1 := chkSrc_spec h k o (by simpa using hk)
 have h2 := chkOpnds_spec h1 (by simpa using hi)
 have h3 := chkDst_spec 0 h2 j oj (by simpa using hj) hd
 rw [Nat.zero_add] at h3
 obtain ⟨e,h4,h5,h6⟩ := memEdge_spec h3
 exact ⟨e,by simpa using h4,h5,h6⟩
def chkE (k : Nat) : List Edge → Bool
 | [] => true
 | e :: es => match Region.binds .any e with
   | true => match Nat.ble (e.on + 1) k with
     | true => chkE k es
     | false => false
   | false => chkE k es
def chkBack : Nat → List Oper → Bool
 | _,[] => true
 | k,o :: os => match chkE k o.after.toList with
   | true => chkBack (k + 1) os
   | false => false
theorem chkE_spec {k : Nat} : ∀ {es : List Edge},chkE k es = true → ∀ e,e ∈ es → Region.binds .any e = true → e.on < k
 | e :: es,h,e',he,hb => by
   unfold chkE at h
   rcases List.mem_cons.1 he with rfl | he
   ·rw [hb] at h
    simp only at h
    split at h
    ·rename_i hl
     exact Nat.le_of_ble_eq_true hl
    ·cases h
   ·have rest : chkE k es = true := by
     split at h
     ·split at h
      ·exact h
      ·cases h
     ·exact h
    exact chkE_spec rest e' he hb
theorem chkBack_spec {os : List Oper} : ∀ (n : Nat),chkBack n os = true → ∀ (k : Nat) (o : Oper),os[k]? = some o → chkE (n + k) o.after.toList = true := by
 induction os with
 | nil => intro n h k o hk; cases hk
 | cons o os ih =>
   intro n h k o' hk
   cases k with
   | zero =>
     obtain rfl : o = o' := Option.some.inj hk
     unfold chkBack at h
     split at h
     ·assumption
     ·cases h
   | succ k =>
     have hk : os[k]? = some o' := hk
     have rest : chkBack (n + 1) os = true := by
      unfold chkBack at h
      split at h
      ·exact h
      ·cases h
     have := ih (n + 1) rest k o' hk
     rw [show n + (k + 1) = n + 1 + k by omega]
     exact this
theorem back_of {ops : Array Oper} (h : chkBack 0 ops.toList = true) : ∀ (k : Nat) (o : Oper),ops[k]? = some o → ∀ e : Edge,e ∈ o.after → Region.binds .any e = true → e.on < k := by
 intro k o hk e he hb
 have h1 := chkBack_spec 0 h k o (by simpa using hk)
 rw [Nat.zero_add] at h1
 exact chkE_spec h1 e (by simpa using he) hb
def chkAll (after : List Edge) : Nat → Bool
 | 0 => true
 | j + 1 => match memEdge j after with
   | true => chkAll after j
   | false => false
theorem chkAll_spec {after : List Edge} : ∀ {n : Nat},chkAll after n = true → ∀ j,j < n → memEdge j after = true
 | n + 1,h,j,hj => by
   unfold chkAll at h
   split at h
   ·rename_i hm
    rcases Nat.lt_or_ge j n with h' | h'
    ·exact chkAll_spec h j h'
    ·obtain rfl : j = n := by omega
     exact hm
   ·cases h
def chkEnd (n : Nat) (ops : List Oper) : Bool := match ops[n + 1]?,ops[n]? with
 | some o,some oe => match memEdge n o.after.toList with
   | true => match chkAll oe.after.toList n with
     | true => Nat.beq ops.length (n + 2)
     | false => false
   | false => false
 | _,_ => false
theorem end_of {ops : Array Oper} {n : Nat} (h : chkEnd n ops.toList = true) : ∀ o : Oper,ops[n + 1]? = some o → ∃ e : Edge,e ∈ o.after ∧ Region.binds .any e = true ∧ ∃ oe : Oper,ops[e.on]? = some oe ∧ ∀ j,j < ops.size → j ≠ n + 1 → j ≠ e.on → ∃ e' : Edge,e' ∈ oe.after ∧ Region.binds .any e' = true ∧ e'.on = j := by
 intro o ho
 unfold chkEnd at h
 have ho' : ops.toList[n + 1]? = some o := by simpa using ho
 rw [ho'] at h
 split at h
 ·rename_i o1 oe h1 h2
  obtain rfl := Option.some.inj h1
  split at h
  ·rename_i h3
   split at h
   ·rename_i h4
    have hn := Nat.eq_of_beq_eq_true h
    obtain ⟨e,g1,g2,g3⟩ := memEdge_spec h3
    refine ⟨e,by simpa using g1,g2,oe,by rw [g3]; simpa using h2,fun j hj hj1 hj2 => ?_⟩
    rw [g3] at hj2
    have hsz : ops.size = n + 2 := by rw [← hn]; simp
    obtain ⟨e',k1,k2,k3⟩ := memEdge_spec (chkAll_spec h4 j (by omega))
    exact ⟨e',by simpa using k1,k2,k3⟩
   ·cases h
  ·cases h
 ·cases h
section
variable {C : Ctx} {call : CallH} {Y : Yld}
def AllQ (c : Kinds) (P : Oper → Prop) : Nat → List Oper → Prop
 | _,[] => True
 | k,o :: os => match c.of k with
   | 0 => P o ∧ AllQ c P (k + 1) os
   | _ => AllQ c P (k + 1) os
theorem allQ_get {c : Kinds} {P : Oper → Prop} {os : List Oper} : ∀ (n : Nat),AllQ c P n os → ∀ (k : Nat) (o : Oper),os[k]? = some o → c.of (n + k) = 0 → P o := by
 induction os with
 | nil => intro n h k o hk; cases hk
 | cons o os ih =>
   intro n h k o' hk
   cases k with
   | zero =>
     obtain rfl : o = o' := Option.some.inj hk
     intro hc
     unfold AllQ at h
     rw [Nat.add_zero] at hc
     rw [hc] at h
     exact h.1
   | succ k =>
     have hk : os[k]? = some o' := hk
     intro hc
     have rest : AllQ c P (n + 1) os := by
      unfold AllQ at h
      split at h
      ·exact h.2
      ·exact h
     exact ih (n + 1) rest k o' hk (by rw [show n + 1 + k = n + (k + 1) by omega]; exact hc)
def plainOp : Op → Bool
 | .lookup _ _ _ _ => false
 | .entry _ => false
 | _ => true
def chkKinds (c : Kinds) (last : Nat) : Nat → List Oper → Bool
 | _,[] => true
 | k,o :: os => match c.of k with
   | 0 => match Nat.beq k 0,Nat.beq k last,plainOp o.op with
     | false,false,true => chkKinds c last (k + 1) os
     | _,_,_ => false
   | _ => chkKinds c last (k + 1) os
theorem chkKinds_spec {c : Kinds} {last : Nat} {os : List Oper} : ∀ (n : Nat),chkKinds c last n os = true → ∀ (k : Nat) (o : Oper),os[k]? = some o → c.of (n + k) = 0 → n + k ≠ 0 ∧ n + k ≠ last ∧ plainOp o.op = true := by
 induction os with
 | nil => intro n h k o hk; cases hk
 | cons o os ih =>
   intro n h k o' hk
   cases k with
   | zero =>
     obtain rfl : o = o' := Option.some.inj hk
     intro hc
     unfold chkKinds at h
     rw [Nat.add_zero] at hc ⊢
     rw [hc] at h
     simp only at h
     split at h
     ·rename_i h1 h2 h3
      exact ⟨Nat.ne_of_beq_eq_false h1,Nat.ne_of_beq_eq_false h2,h3⟩
     ·cases h
   | succ k =>
     have hk : os[k]? = some o' := hk
     intro hc
     have rest : chkKinds c last (n + 1) os = true := by
      unfold chkKinds at h
      split at h
      ·split at h
       ·exact h
       ·cases h
      ·exact h
     have e : n + 1 + k = n + (k + 1) := by omega
     have := ih (n + 1) rest k o' hk (by rw [e]; exact hc)
     rw [e] at this
     exact this
def QuietV (C : Ctx) (S : ASt) (V : Nat → FV) (o : Oper) : Prop := o.guard = none ∧ match o.dst with
 | some d => evVal C S o.op fun u => u = V d
 | none => False
theorem quiet_of {ops : Array Oper} {c : Kinds} {last : Nat} {S : ASt} {V : Nat → FV} (h1 : chkKinds c last 0 ops.toList = true) (h2 : AllQ c (QuietV C S V) 0 ops.toList) :
 ∀ (k : Nat) (o : Oper),ops[k]? = some o → c.of k = 0 → k ≠ 0 ∧ k ≠ last ∧ o.guard = none ∧ ∃ d,o.dst = some d ∧ (evVal C S o.op fun u => u = V d) ∧ (∀ t x i ok,o.op ≠ .lookup t x i ok) ∧ ∀ it,o.op ≠ .entry it := by
 intro k o ho hc
 have hc' : c.of (0 + k) = 0 := by rw [Nat.zero_add]; exact hc
 obtain ⟨a,b,p⟩ := chkKinds_spec 0 h1 k o (by simpa using ho) hc'
 rw [Nat.zero_add] at a b
 obtain ⟨g,v⟩ := allQ_get 0 h2 k o (by simpa using ho) hc'
 cases hd : o.dst with
 | none => rw [hd] at v; exact v.elim
 | some d =>
   rw [hd] at v
   exact ⟨a,b,g,d,rfl,v,(fun t x i ok e => by rw [e] at p; cases p),(fun it e => by rw [e] at p; cases p)⟩
theorem look_app {d : Nat} {base : List (Nat × FV)} : ∀ {tbl : List (Nat × FV)},(∀ p,p ∈ tbl → p.1 ≠ d) → lookF (tbl ++ base) d = lookF base d
 | [],_ => rfl
 | (j,v) :: r,h => by
   have hj : j ≠ d := h (j,v) List.mem_cons_self
   have hb : Nat.beq d j = false := by
    cases hb : Nat.beq d j with
    | false => rfl
    | true => exact absurd (Nat.eq_of_beq_eq_true hb).symm hj
   show (match Nat.beq d j with | true => v | false => lookF (r ++ base) d) = _
   rw [hb]
   exact look_app fun p hp => h p (List.mem_cons_of_mem _ hp)
theorem base_of {ops : Array Oper} {tbl base : List (Nat × FV)} (h : tbl.map Prod.fst = ops.toList.filterMap (·.dst)) (d : Nat) (hd : ∀ (k : Nat) (o : Oper),ops[k]? = some o → o.dst = some d → False) : lookF base d = lookF (tbl ++ base) d := by
 refine (look_app fun p hp e => ?_).symm
 have h1 : p.1 ∈ tbl.map Prod.fst := List.mem_map_of_mem hp
 rw [h,List.mem_filterMap] at h1
 obtain ⟨o,ho,hod⟩ := h1
 obtain ⟨k,hk⟩ := List.getElem?_of_mem ho
 exact hd k o (by simpa using hk) (by rw [hod,e])
def KillT (mp q : Nat) : List (Nat × FV) → Prop
 | [] => True
 | (j,v) :: r => (v.kill mp = v ∨ j = mp ∨ j = q) ∧ KillT mp q r
theorem kill_look {mp q : Nat} : ∀ {rel : List (Nat × FV)},KillT mp q rel → ∀ d,(lookF rel d).kill mp = lookF rel d ∨ d = mp ∨ d = q
 | [],_,d => .inl rfl
 | (j,v) :: r,h,d => by
   show (match Nat.beq d j with | true => v | false => lookF r d).kill mp = (match Nat.beq d j with | true => v | false => lookF r d) ∨ _
   cases hb : Nat.beq d j with
   | true =>
     obtain rfl := Nat.eq_of_beq_eq_true hb
     exact h.1
   | false => exact kill_look h.2 d
def chkWaits (j q : Nat) (ops : List Oper) : Bool := match ops[j]? with
 | some o => match o.dst with
   | some d => match Nat.beq d q with
     | true => memEdge 0 o.after.toList
     | false => false
   | none => false
 | none => false
theorem waits_of {ops : Array Oper} {j q : Nat} (h : chkWaits j q ops.toList = true) : ∃ (j : Nat) (oj : Oper) (e : Edge),ops[j]? = some oj ∧ oj.dst = some q ∧ e ∈ oj.after ∧ Region.binds .any e = true ∧ e.on = 0 := by
 unfold chkWaits at h
 split at h
 ·rename_i o ho
  split at h
  ·rename_i d hd
   split at h
   ·rename_i hb
    obtain rfl := Nat.eq_of_beq_eq_true hb
    obtain ⟨e,h1,h2,h3⟩ := memEdge_spec h
    exact ⟨j,o,e,by simpa using ho,hd,by simpa using h1,h2,h3⟩
   ·cases h
  ·cases h
 ·cases h
end
end Qv

end
