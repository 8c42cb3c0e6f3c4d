/- Several texts in one: Maps of the call's own: laid anew, stored into, walked through, closed and what follows. No condition. -/
import Derived.Test.YtpoefbbfhebakaaGreatDoorCv2
import Derived.RangeFuncNested
import Derived.Deep.LoopGhost
set_option linter.unusedVariables false
set_option linter.unusedSimpArgs false

section
namespace Qv
open Go Go.RowKit
section
variable {E : Env} {G : Ghost} {S : ASt} {a : Act} {w : World} {o : Oper}
theorem cell_putObj {l : Nat} {o o' : Obj} (hl : w.heap[l]? = some o) (ho : o.isCells = false) (ho' : o'.isCells = false) (b i : Nat) : (w.putObj l o').cell? ⟨b,i,none⟩ = w.cell? ⟨b,i,none⟩ := by
 unfold World.cell?
 by_cases hb : b = l
 ·subst hb
  have h1 : (w.putObj b o').heap[b]? = some o' := World.putObj_heap_same (Array.getElem?_eq_some_iff.1 hl).1
  simp only [h1,hl]
  cases o <;> cases o' <;> simp_all [Obj.isCells]
 ·have h1 : (w.putObj l o').heap[b]? = w.heap[b]? := World.putObj_heap_other hb
  simp only [h1]
theorem frozen_putObj {l : Nat} {o o' : Obj} (hl : w.heap[l]? = some o) (ho : o.isCells = false) (ho' : o'.isCells = false) (b i : Nat) : (w.putObj l o').frozen? ⟨b,i,none⟩ = w.frozen? ⟨b,i,none⟩ := by
 unfold World.frozen?
 by_cases hb : b = l
 ·subst hb
  have h1 : (w.putObj b o').heap[b]? = some o' := World.putObj_heap_same (Array.getElem?_eq_some_iff.1 hl).1
  simp only [h1,hl]
  cases o <;> cases o' <;> simp_all [Obj.isCells]
 ·have h1 : (w.putObj l o').heap[b]? = w.heap[b]? := World.putObj_heap_other hb
  simp only [h1]
theorem stands_putObj {imm : Nat → Nat → Prop} {l : Nat} {o o' : Obj} (hl : w.heap[l]? = some o) (h : (∃ es k,o = .map es k) → ¬ imm l 0) : Stands imm w (w.putObj l o') := fun b es k hi hb => by
 have hne : b ≠ l := fun e => by
  subst e
  rw [hl] at hb
  obtain rfl := Option.some.inj hb
  exact h ⟨es,k,rfl⟩ hi
 have h1 : (w.putObj l o').heap[b]? = w.heap[b]? := World.putObj_heap_other hne
 rw [h1]; exact hb
theorem SimG.putObj (hs : SimG E G S a w) {l : Nat} {o o' : Obj} (hl : w.heap[l]? = some o) (ho : o.isCells = false) (ho' : o'.isCells = false) (hw0 : E.w0.heap.size ≤ l) (him : (∃ es k,o = .map es k) → ¬ G.imm l 0)
 {rnd : Option Nat} {susp : List (Array Value)} {loops : List (Nat × Loop)} {fixed : List Nat} {pend : List PSt} {defers : List Deferred} {maps : List (Nat × List (AV × FV))} {its : List (Nat × (Option (AV × AV) × List (AV × AV)))}
 (hx : (∀ v x,RepF G w v x → RepF G (w.putObj l o') v x) → (∀ k ob,k ≠ l → w.heap[k]? = some ob → (w.putObj l o').heap[k]? = some ob) → (w.putObj l o').heap[l]? = some o' →
  Ext { E with rnd := rnd,susp := susp,loops := loops,fixed := fixed } G { S with pend := pend,maps := maps,its := its } { a with defers := defers } (w.putObj l o')) :
 SimG { E with rnd := rnd,susp := susp,loops := loops,fixed := fixed } G { S with pend := pend,maps := maps,its := its } { a with defers := defers } (w.putObj l o') := by
 have hlt := (Array.getElem?_eq_some_iff.1 hl).1
 have hc := fun b i => cell_putObj (w := w) hl ho ho' b i
 have hf := fun b i => frozen_putObj (w := w) hl ho ho' b i
 have hother : ∀ k,k ≠ l → (w.putObj l o').heap[k]? = w.heap[k]? := fun k hk => World.putObj_heap_other hk
 have hsz : (w.putObj l o').heap.size = w.heap.size := World.putObj_size
 have keep : ∀ v x,RepF G w v x → RepF G (w.putObj l o') v x := fun v x hv => hv.keep (fun _ _ h => h) (fun b i c _ h => by rw [hc]; exact h) (stands_putObj hl him) (fun _ _ h => h) (fun _ _ h => h)
 refine ⟨⟨hs.kept.os,hs.kept.tape,hs.kept.output,by rw [hsz]; exact hs.kept.size,fun k hk hk' => ?_,fun k cs T fr hk q => ?_⟩,hs.size,hx keep (fun k ob hk h => by rw [hother k hk]; exact h) (World.putObj_heap_same hlt),?_,hs.immB,fun b i h => by rw [hsz]; exact hs.immLt b i h,fun i hi => keep _ _ (hs.tmps i hi),fun ob cs h => ?_,fun ob b h => ?_,hs.locInj,hs.locTail,fun t b s e T h => ?_,hs.tailInj⟩
 ·rw [hother k (by intro e; subst e; exact absurd hk (by have : E.w0.heap.size ≤ k := hw0; show ¬ k < E.w0.heap.size; omega))]
  exact hs.kept.block k hk hk'
 ·obtain ⟨cs',q1,q2⟩ := hs.kept.shape k cs T fr hk q
  exact ⟨cs',by rw [hother k (by intro e; subst e; have := (E.hown k hk).2.1; omega)]; exact q1,q2⟩
 ·have hcells : ∀ k cs T fr,w.heap[k]? = some (.cells cs T fr) → k ≠ l := fun k cs T fr h e => by
   subst e
   rw [h] at hl
   obtain rfl := Option.some.inj hl
   simp [Obj.isCells] at ho
  refine hs.bld.same rfl rfl rfl rfl (by rw [hsz]; exact Nat.le_refl _) (fun ob bs b q q2 q3 => hother b ?_) (fun ob r q => hother r (fun e => ?_))
  ·obtain ⟨-,b',q4,p,v,-,q5,-⟩ := hs.bld.at_ ob bs q
   rw [q3] at q4
   obtain rfl := Option.some.inj q4
   exact hcells _ _ _ _ q5
  ·obtain ⟨cs,T,fr,q5⟩ := hs.bld.rowC ob r q
   exact hcells _ _ _ _ q5 e
 ·obtain ⟨b,h1,h2⟩ := hs.objs ob cs h
  exact ⟨b,h1,fun i x hx => let ⟨c,h3,h4⟩ := h2 i x hx; ⟨c,by rw [hc]; exact h3,keep _ _ h4⟩⟩
 ·obtain ⟨h1,h2,h3⟩ := hs.locs ob b h
  exact ⟨by rw [hsz]; exact h1,h2,fun i => ⟨(h3 i).1,by rw [hf]; exact (h3 i).2⟩⟩
 ·obtain ⟨h1,h2,⟨cs,fr,h3⟩,h4⟩ := hs.tails t b s e T h
  have hne : b ≠ l := fun e' => by
   subst e'
   rw [h3] at hl
   obtain rfl := Option.some.inj hl
   simp [Obj.isCells] at ho
  exact ⟨by rw [hsz]; exact h1,h2,⟨cs,fr,by rw [hother b hne]; exact h3⟩,fun i hi hi' => let ⟨⟨c,h5⟩,h6,h7⟩ := h4 i hi hi'; ⟨⟨c,by rw [hc]; exact h5⟩,by rw [hf]; exact h6,h7⟩⟩
theorem Mps.otherObj (h : Mps E G S w) {l : Nat} {o : Obj} {w' : World} (hl : w.heap[l]? = some o) (ho : (∀ (es : Array MapEntry) (k : Nat),o ≠ Obj.map es k) ∧ ∀ (m : Option Nat) (s : Nat) (seen : Array Nat) (c : Nat),o ≠ Obj.mapIter m s seen c) (keep : ∀ v x,RepF G w v x → RepF G w' v x)
 (hoth : ∀ k ob,k ≠ l → w.heap[k]? = some ob → w'.heap[k]? = some ob) {E' : Env} {S' : ASt} (hE : E'.w0 = E.w0) (hm : S'.maps = S.maps) (hi : S'.its = S.its) : Mps E' G S' w' := by
 have hkp : ∀ v x,Rep G.imm w v x → Rep G.imm w' v x := fun v x hv => (keep v (.p x) (.p v x hv)).plain
 have hmap : ∀ (b : Nat) (es : Array MapEntry) (k : Nat),w.heap[b]? = some (Obj.map es k) → w'.heap[b]? = some (Obj.map es k) := fun b es k hb => hoth b _ (fun e => by subst e; rw [hl] at hb; exact ho.1 es k (Option.some.inj hb)) hb
 have hitr : ∀ (b : Nat) (m : Option Nat) (s : Nat) (seen : Array Nat) (c : Nat),w.heap[b]? = some (Obj.mapIter m s seen c) → w'.heap[b]? = some (Obj.mapIter m s seen c) := fun b m s seen c hb => hoth b _ (fun e => by subst e; rw [hl] at hb; exact ho.2 m s seen c (Option.some.inj hb)) hb
 refine ⟨fun o l h1 => ?_,fun o b h1 => ?_,h.inj,fun q x h1 => ?_,fun q r h1 => ?_,h.itInj,h.apart⟩
 ·obtain ⟨b,clk,es,q1,q2,q3,q4,q5⟩ := h.at_ o l (hm ▸ h1)
  exact ⟨b,clk,es,q1,hmap _ _ _ q2,q3,q4,fun i e p a b => ⟨hkp _ _ (q5 i e p a b).1,keep _ _ (q5 i e p a b).2⟩⟩
 ·obtain ⟨q1,q2,es,k,q3⟩ := h.loc o b h1
  exact ⟨hE ▸ q1,q2,es,k,hmap _ _ _ q3⟩
 ·obtain ⟨r,q1,q2⟩ := h.its q x (hi ▸ h1)
  exact ⟨r,q1,q2.keep hkp (fun _ h => h) (fun m s seen c h => hitr _ _ _ _ _ h) fun b es k _ hb => hmap _ _ _ hb⟩
 ·obtain ⟨q1,m,s,seen,c,q2⟩ := h.itLoc q r h1
  exact ⟨hE ▸ q1,m,s,seen,c,hitr _ _ _ _ _ q2⟩
theorem Ext.otherObj (h : Ext E G S a w) {l : Nat} {o : Obj} {w' : World} (hl : w.heap[l]? = some o) (ho : (∀ r,o ≠ .loop r) ∧ ∀ d,o ≠ .deferred d) (keep : ∀ v x,RepF G w v x → RepF G w' v x)
 (hoth : ∀ k ob,k ≠ l → w.heap[k]? = some ob → w'.heap[k]? = some ob) {maps : List (Nat × List (AV × FV))} {its : List (Nat × (Option (AV × AV) × List (AV × AV)))} (hm : Mps E G { S with maps := maps,its := its } w') :
 Ext E G { S with maps := maps,its := its } a w' := by
 refine ⟨hm,h.suspLen,fun i vals fr h1 h2 => ?_,h.pendLen,fun i k r st h1 h2 => ?_,h.loopInj,h.yl,h.rnd,?_,h.glob.of keep⟩
 ·obtain ⟨h3,h4⟩ := h.susp i vals fr h1 h2
  exact ⟨h3,fun j hj => keep _ _ (h4 j hj)⟩
 ·obtain ⟨h3,h4⟩ := h.loops i k r st h1 h2
  refine ⟨h3,hoth k _ (fun e => ?_) h4⟩
  subst e
  rw [hl] at h4
  exact ho.1 _ (Option.some.inj h4)
 ·obtain ⟨ms,h1,h2,h3⟩ := h.marks
  refine ⟨ms,h1,h2,fun r hr => ⟨(h3 r hr).1,hoth r _ (fun e => ?_) (h3 r hr).2⟩⟩
  subst e
  have := (h3 r hr).2
  rw [hl] at this
  exact ho.2 _ (Option.some.inj this)
theorem getM_set {α : Type} {ob o : Nat} {c x : α} : ∀ {l : List (Nat × α)},getM (setM l ob c) o = some x → (o = ob ∧ x = c) ∨ (o ≠ ob ∧ getM l o = some x) := by
 intro l
 induction l with
 | nil => intro h; cases h
 | cons p l ih =>
   obtain ⟨u,i⟩ := p
   intro h
   simp only [setM] at h
   split at h
   ·rename_i hb
    obtain rfl := Nat.eq_of_beq_eq_true hb
    simp only [getM] at h ⊢
    split at h
    ·rename_i hb2
     obtain rfl := Nat.eq_of_beq_eq_true hb2
     obtain rfl := Option.some.inj h
     exact .inl ⟨rfl,rfl⟩
    ·rename_i hb2
     exact .inr ⟨Ne.symm (Nat.ne_of_beq_eq_false hb2),h⟩
   ·rename_i hb
    simp only [getM] at h ⊢
    split at h
    ·rename_i hb2
     obtain rfl := Nat.eq_of_beq_eq_true hb2
     exact .inr ⟨Nat.ne_of_beq_eq_false hb,h⟩
    ·exact ih h
theorem SimG.updMap (hs : SimG E G S a w) {ob b clk clk' : Nat} {es es' : List MapEntry} {l' : List (AV × FV)} (hb : G.mp ob = some b) (hh : w.heap[b]? = some (.map es.toArray clk)) (hfine : MapFine es' clk') (hlen : es'.length = l'.length)
 (hent : ∀ (i : Nat) (e : MapEntry) (p : AV × FV),es'[i]? = some e → l'[i]? = some p → Rep G.imm w e.key p.1 ∧ RepF G w e.val p.2) :
 SimG E G { S with maps := setM S.maps ob l' } a (w.putObj b (.map es'.toArray clk')) := by
 have hm := hs.ext'.mps
 obtain ⟨q1,q2,-⟩ := hm.loc ob b hb
 refine hs.putObj (pend := S.pend) (its := S.its) (defers := a.defers) (rnd := E.rnd) (susp := E.susp) (loops := E.loops) (fixed := E.fixed) hh rfl rfl q1 (fun _ => q2 0) fun keep hoth hat => ?_
 have hkp : ∀ v x,Rep G.imm w v x → Rep G.imm (w.putObj b (.map es'.toArray clk')) v x := fun v x hv => (keep v (.p x) (.p v x hv)).plain
 refine Ext.otherObj (E := E) hs.ext' hh ⟨fun r => by simp,fun d => by simp⟩ keep hoth ⟨fun o m ho => ?_,fun o b' ho => ?_,hm.inj,fun q x hx => ?_,fun q r hr => ?_,hm.itInj,hm.apart⟩
 ·rcases getM_set ho with ⟨rfl,rfl⟩ | ⟨hne,ho⟩
  ·exact ⟨b,clk',es',hb,hat,hfine,hlen,fun i e p h1 h2 => ⟨hkp _ _ (hent i e p h1 h2).1,keep _ _ (hent i e p h1 h2).2⟩⟩
  ·obtain ⟨b',clk0,es0,h1,h2,h3,h4,h5⟩ := hm.at_ o m ho
   exact ⟨b',clk0,es0,h1,hoth b' _ (fun e => hne (hm.inj o ob b' h1 (e ▸ hb))) h2,h3,h4,fun i e p h6 h7 => ⟨hkp _ _ (h5 i e p h6 h7).1,keep _ _ (h5 i e p h6 h7).2⟩⟩
 ·obtain ⟨h1,h2,es0,c0,h3⟩ := hm.loc o b' ho
  refine ⟨h1,h2,?_⟩
  by_cases e : b' = b
  ·exact ⟨_,_,by rw [e]; exact hat⟩
  ·exact ⟨es0,c0,hoth b' _ e h3⟩
 ·obtain ⟨r,h1,h2⟩ := hm.its q x hx
  refine ⟨r,h1,h2.keep hkp (fun _ h => h) (fun m s seen c h => hoth r _ (fun e => ?_) h) (stands_putObj hh fun _ => q2 0)⟩
  subst e
  rw [hh] at h
  cases h
 ·obtain ⟨h1,m,s,seen,c,h2⟩ := hm.itLoc q r hr
  refine ⟨h1,m,s,seen,c,hoth r _ (fun e => ?_) h2⟩
  subst e
  rw [hh] at h2
  cases h2
theorem SimG.updIt (hs : SimG E G S a w) {q r : Nat} {m m' : Option Nat} {s s' c c' : Nat} {seen seen' : Array Nat} {x : Option (AV × AV) × List (AV × AV)} (hq : G.it q = some r) (hh : w.heap[r]? = some (.mapIter m s seen c))
 (hx' : (∀ v y,Rep G.imm w v y → Rep G.imm (w.putObj r (.mapIter m' s' seen' c')) v y) → Stands G.imm w (w.putObj r (.mapIter m' s' seen' c')) → (w.putObj r (.mapIter m' s' seen' c')).heap[r]? = some (.mapIter m' s' seen' c') → ItAt G.imm (w.putObj r (.mapIter m' s' seen' c')) r x) :
 SimG E G { S with its := setM S.its q x } a (w.putObj r (.mapIter m' s' seen' c')) := by
 have hm := hs.ext'.mps
 obtain ⟨q1,-⟩ := hm.itLoc q r hq
 have hst : Stands G.imm w (w.putObj r (.mapIter m' s' seen' c')) := stands_putObj hh fun ⟨es,k,h⟩ => by cases h
 refine hs.putObj (pend := S.pend) (maps := S.maps) (defers := a.defers) (rnd := E.rnd) (susp := E.susp) (loops := E.loops) (fixed := E.fixed) hh rfl rfl q1 (fun ⟨es,k,h⟩ => by cases h) fun keep hoth hat => ?_
 have hkp : ∀ v y,Rep G.imm w v y → Rep G.imm (w.putObj r (.mapIter m' s' seen' c')) v y := fun v y hv => (keep v (.p y) (.p v y hv)).plain
 refine Ext.otherObj (E := E) hs.ext' hh ⟨fun r => by simp,fun d => by simp⟩ keep hoth ⟨fun o l ho => ?_,fun o b' ho => ?_,hm.inj,fun q' y hy => ?_,fun q' r' hr => ?_,hm.itInj,hm.apart⟩
 ·obtain ⟨b',clk0,es0,h1,h2,h3,h4,h5⟩ := hm.at_ o l ho
  refine ⟨b',clk0,es0,h1,hoth b' _ (fun e => ?_) h2,h3,h4,fun i e p h6 h7 => ⟨hkp _ _ (h5 i e p h6 h7).1,keep _ _ (h5 i e p h6 h7).2⟩⟩
  subst e
  rw [hh] at h2
  cases h2
 ·obtain ⟨h1,h2,es0,c0,h3⟩ := hm.loc o b' ho
  refine ⟨h1,h2,es0,c0,hoth b' _ (fun e => ?_) h3⟩
  subst e
  rw [hh] at h3
  cases h3
 ·rcases getM_set hy with ⟨rfl,rfl⟩ | ⟨hne,hy⟩
  ·exact ⟨r,hq,hx' hkp hst hat⟩
  ·obtain ⟨r',h1,h2⟩ := hm.its q' y hy
   exact ⟨r',h1,h2.keep hkp (fun _ h => h) (fun m s seen c h => hoth r' _ (fun e => hne (hm.itInj q' q r' h1 (e ▸ hq))) h) hst⟩
 ·obtain ⟨h1,m0,s0,seen0,c0,h2⟩ := hm.itLoc q' r' hr
  by_cases e : r' = r
  ·exact ⟨h1,_,_,_,_,by rw [e]; exact hat⟩
  ·exact ⟨h1,m0,s0,seen0,c0,hoth r' _ e h2⟩
theorem SimG.addName (hs : SimG E G S a w) {G' : Ghost} {maps : List (Nat × List (AV × FV))} {its : List (Nat × (Option (AV × AV) × List (AV × AV)))} (h1 : G'.imm = G.imm) (h2 : G'.loc = G.loc) (h3 : G'.tail = G.tail) (h4 : G'.yl = G.yl) (h5 : G'.row = G.row)
 (hmp : ∀ o b,G.mp o = some b → G'.mp o = some b) (hit : ∀ o b,G.it o = some b → G'.it o = some b) (hm : (∀ v x,RepF G w v x → RepF G' w v x) → Mps E G' { S with maps := maps,its := its } w) :
 SimG E G' { S with maps := maps,its := its } a w := by
 have keep : ∀ v x,RepF G w v x → RepF G' w v x := fun v x h => h.keep (fun _ _ h => h1 ▸ h) (fun _ _ _ _ h => h) (.refl _ _) (fun _ _ h => h2 ▸ h) (fun _ _ h => h3 ▸ h) (fun _ _ h => h4 ▸ h) hmp hit
 refine ⟨hs.kept,hs.size,⟨hm keep,hs.ext'.suspLen,fun i vals fr q1 q2 => ?_,hs.ext'.pendLen,hs.ext'.loops,hs.ext'.loopInj,fun i k r q => by rw [h4]; exact hs.ext'.yl i k r q,hs.ext'.rnd,hs.ext'.marks,hs.ext'.glob.of keep⟩,⟨fun o bs q => ?_,fun o r q => ?_,fun o r q => hs.bld.rowC o r (h5 ▸ q)⟩,h1 ▸ hs.immB,h1 ▸ hs.immLt,fun i hi => keep _ _ (hs.tmps i hi),fun o cs ho => ?_,fun o b ho => ?_,fun o o' b q q' => hs.locInj o o' b (h2 ▸ q) (h2 ▸ q'),fun o t b r q q' => hs.locTail o t b r (h2 ▸ q) (h3 ▸ q'),fun t b s e T q => ?_,fun t t' b r r' q q' => hs.tailInj t t' b r r' (h3 ▸ q) (h3 ▸ q')⟩
 ·obtain ⟨q3,q4⟩ := hs.ext'.susp i vals fr q1 q2
  exact ⟨q3,fun j hj => keep _ _ (q4 j hj)⟩
 ·rw [h2,h5]; exact hs.bld.at_ o bs q
 ·rw [h1,h2,h3,h5]; exact hs.bld.row o r (h5 ▸ q)
 ·obtain ⟨b,q1,q2⟩ := hs.objs o cs ho
  exact ⟨b,h2 ▸ q1,fun i x hx => let ⟨c,q3,q4⟩ := q2 i x hx; ⟨c,q3,keep _ _ q4⟩⟩
 ·rw [h1]; exact hs.locs o b (h2 ▸ ho)
 ·rw [h1]; exact hs.tails t b s e T (h3 ▸ q)
theorem newMap_sound (hs : SimG E G S a w) (q : Nat) :
 ∃ G',SimG E G' { (S.kill (S.off + q)).put (some q) (.mapr (S.off + q)) with maps := (S.off + q,[]) :: mapMs (FV.kill (S.off + q)) (delM (S.off + q) S.maps) } (a.put (some q) (.map (some w.heap.size))) (w.alloc (.map #[] 0)) := by
 generalize S.off + q = d
 have hb : Below w.heap.size w (w.alloc (.map #[] 0)) := (Below.refl _ _).alloc (Nat.le_refl _) _
 have h1 := (hs.extN hb fun _ _ => False).kill d
 let G1 : Ghost := Ghost.free { G with imm := fun b o => G.imm b o ∨ (w.heap.size ≤ b ∧ b < (w.alloc (.map #[] 0)).heap.size ∧ False) } d
 let G2 : Ghost := { G1 with mp := fun o => if o = d then some w.heap.size else G1.mp o }
 have hfree : ∀ o b,G1.mp o = some b → o ≠ d ∧ G.mp o = some b := fun o b h => by
  simp only [G1,Ghost.free] at h
  split at h
  ·cases h
  ·rename_i hne; exact ⟨hne,h⟩
 have hold : ∀ o b,G1.mp o = some b → b < w.heap.size := fun o b h => by
  obtain ⟨-,-,es,k,h3⟩ := hs.ext'.mps.loc o b (hfree o b h).2
  exact (Array.getElem?_eq_some_iff.1 h3).1
 have himm : ∀ i,¬ G1.imm w.heap.size i := fun i h => by
  rcases h with h | ⟨-,-,h⟩
  ·have := hs.immLt _ _ h; omega
  ·exact h
 have h2 : SimG E G2 { S.kill d with maps := (d,[]) :: mapMs (FV.kill d) (delM d S.maps),its := delM d S.its } a (w.alloc (.map #[] 0)) := by
  refine h1.addName (G' := G2) rfl rfl rfl rfl rfl (fun o b h => ?_) (fun _ _ h => h) fun keep => ?_
  ·simp only [G2]
   rw [if_neg (hfree o b h).1]; exact h
  ·have hm := h1.ext'.mps
   refine ⟨fun o l ho => ?_,fun o b ho => ?_,fun o o' b q1 q2 => ?_,hm.its,hm.itLoc,hm.itInj,fun o o' b q1 q2 => ?_⟩
   ·simp only [getM] at ho
    split at ho
    ·rename_i hq
     obtain rfl := Nat.eq_of_beq_eq_true hq
     obtain rfl := Option.some.inj ho
     exact ⟨w.heap.size,0,[],by simp [G2],World.alloc_heap_new w _,⟨by simp,by simp⟩,rfl,by simp⟩
    ·obtain ⟨b,clk,es,q1,q2,q3,q4,q5⟩ := hm.at_ o l ho
     refine ⟨b,clk,es,?_,q2,q3,q4,fun i e p h6 h7 => ⟨(q5 i e p h6 h7).1,keep _ _ (q5 i e p h6 h7).2⟩⟩
     simp only [G2]
     rw [if_neg (hfree o b q1).1]; exact q1
   ·simp only [G2] at ho
    split at ho
    ·obtain rfl := Option.some.inj ho
     exact ⟨hs.kept.size,himm,_,_,World.alloc_heap_new w _⟩
    ·exact hm.loc o b ho
   ·simp only [G2] at q1 q2
    split at q1 <;> split at q2
    ·rename_i e1 e2; rw [e1,e2]
    ·obtain rfl := Option.some.inj q1
     have := hold _ _ q2; omega
    ·obtain rfl := Option.some.inj q2
     have := hold _ _ q1; omega
    ·exact hm.inj o o' b q1 q2
   ·simp only [G2] at q1
    split at q1
    ·obtain rfl := Option.some.inj q1
     simp only [G2,G1,Ghost.free] at q2
     split at q2
     ·cases q2
     ·have := (hs.locs o' _ q2).1; omega
    ·exact hm.apart o o' b q1 q2
 exact ⟨G2,h2.put (some q) (v := .map (some w.heap.size)) (x := .mapr d) (.mapr d _ (by simp [G2]))⟩
theorem newIt_sound (hs : SimG E G S a w) (q : Nat) {m : Option Nat} {s c : Nat} {l : List (AV × AV)}
 (hit : ItAt (fun b o => G.imm b o ∨ (w.heap.size ≤ b ∧ b < (w.alloc (.mapIter m s #[] c)).heap.size ∧ False)) (w.alloc (.mapIter m s #[] c)) w.heap.size (none,l)) :
 ∃ G',SimG E G' { (S.kill (S.off + q)).put (some q) (.itr (S.off + q)) with its := (S.off + q,(none,l)) :: delM (S.off + q) S.its } (a.put (some q) (.pointer (some ⟨w.heap.size,0,none⟩))) (w.alloc (.mapIter m s #[] c)) := by
 generalize S.off + q = d
 have hb : Below w.heap.size w (w.alloc (.mapIter m s #[] c)) := (Below.refl _ _).alloc (Nat.le_refl _) _
 have h1 := (hs.extN hb fun _ _ => False).kill d
 let G1 : Ghost := Ghost.free { G with imm := fun b o => G.imm b o ∨ (w.heap.size ≤ b ∧ b < (w.alloc (.mapIter m s #[] c)).heap.size ∧ False) } d
 let G2 : Ghost := { G1 with it := fun o => if o = d then some w.heap.size else G1.it o }
 have hfree : ∀ o b,G1.it o = some b → o ≠ d ∧ G.it o = some b := fun o b h => by
  simp only [G1,Ghost.free] at h
  split at h
  ·cases h
  ·rename_i hne; exact ⟨hne,h⟩
 have hold : ∀ o b,G1.it o = some b → b < w.heap.size := fun o b h => by
  obtain ⟨-,_,_,_,_,h3⟩ := hs.ext'.mps.itLoc o b (hfree o b h).2
  exact (Array.getElem?_eq_some_iff.1 h3).1
 have h2 : SimG E G2 { S.kill d with maps := mapMs (FV.kill d) (delM d S.maps),its := (d,(none,l)) :: delM d S.its } a (w.alloc (.mapIter m s #[] c)) := by
  refine h1.addName (G' := G2) rfl rfl rfl rfl rfl (fun _ _ h => h) (fun o b h => ?_) fun keep => ?_
  ·simp only [G2]
   rw [if_neg (hfree o b h).1]; exact h
  ·have hm := h1.ext'.mps
   refine ⟨fun o l ho => ?_,hm.loc,hm.inj,fun o x ho => ?_,fun o r ho => ?_,fun o o' b q1 q2 => ?_,hm.apart⟩
   ·obtain ⟨b,clk,es,q1,q2,q3,q4,q5⟩ := hm.at_ o l ho
    exact ⟨b,clk,es,q1,q2,q3,q4,fun i e p h6 h7 => ⟨(q5 i e p h6 h7).1,keep _ _ (q5 i e p h6 h7).2⟩⟩
   ·simp only [getM] at ho
    split at ho
    ·rename_i hq
     obtain rfl := Nat.eq_of_beq_eq_true hq
     obtain rfl := Option.some.inj ho
     exact ⟨w.heap.size,by simp [G2],hit⟩
    ·obtain ⟨r,q1,q2⟩ := hm.its o x ho
     refine ⟨r,?_,q2⟩
     simp only [G2]
     rw [if_neg (hfree o r q1).1]; exact q1
   ·simp only [G2] at ho
    split at ho
    ·obtain rfl := Option.some.inj ho
     exact ⟨hs.kept.size,_,_,_,_,World.alloc_heap_new w _⟩
    ·exact hm.itLoc o r ho
   ·simp only [G2] at q1 q2
    split at q1 <;> split at q2
    ·rename_i e1 e2; rw [e1,e2]
    ·obtain rfl := Option.some.inj q1
     have := hold _ _ q2; omega
    ·obtain rfl := Option.some.inj q2
     have := hold _ _ q1; omega
    ·exact hm.itInj o o' b q1 q2
 exact ⟨G2,h2.put (some q) (v := .pointer (some ⟨w.heap.size,0,none⟩)) (x := .itr d) (.itr d _ (by simp [G2]))⟩
end
end Qv

end

section
namespace Qv
open Go Go.RowKit
theorem updM_locate {α : Type} (k : AV) (x : α) (l : List (AV × α)) : updM k x l = match locate k (keysOf l) with
 | some j => l.set j (k,x)
 | none => l ++ [(k,x)] := by
 induction l with
 | nil => rfl
 | cons p l ih =>
   obtain ⟨k',y⟩ := p
   simp only [updM,keysOf,locate]
   cases hs : sameA k k' with
   | true => simp
   | false =>
     simp only [ih]
     cases locate k (keysOf l) with
     | none => rfl
     | some j => simp
theorem locate_some {k : AV} : ∀ {ks : List AV} {j : Nat},locate k ks = some j → ∃ h : j < ks.length,ks[j] = k
 | [],j,h => by simp [locate] at h
 | x :: ks,j,h => by
   simp only [locate] at h
   split at h
   ·rename_i hs
    obtain rfl := Option.some.inj h
    exact ⟨by simp,(sameA_eq hs).symm⟩
   ·cases hq : locate k ks with
    | none => simp [hq] at h
    | some m =>
      simp only [hq,Option.map_some,Option.some.injEq] at h
      subst h
      obtain ⟨h1,h2⟩ := locate_some hq
      exact ⟨by simp; omega,by simpa using h2⟩
section
variable {E : Env} {G : Ghost} {S : ASt} {a : Act} {w : World} {o : Oper}
theorem wp_makeMap (hs : SimG E G S a w) {d : Nat} {t : TypeId} {K : ASt → Prop} (ho : o.op = .makeMap t none) (hd : o.dst = some d) (h : newMapK S d K) {next : Act → World → Prop} {Q : Exit → Act → World → Prop}
 (hn : ∀ S' a' w',K S' → Sim E S' a' w' → next a' w') : Owp E o a w next Q := by
 unfold newMapK at h
 rw [withNm_eq] at h
 obtain ⟨G',hg⟩ := newMap_sound hs d
 refine wp_value (v := .map (some w.heap.size)) (w' := w.alloc (.map #[] 0)) ?_ (hn _ _ _ h ⟨G',hd ▸ hg⟩)
 have : (Instr.makeMap t none).run E.C.P w = .ok (.map (some w.heap.size)) (w.alloc (.map #[] 0)) := rfl
 simp [execOp,ho,this]
theorem run_update {P : Program} {t kT eT : TypeId} (hu : P.underlying t = some (.map kT eT)) {L : List Leaf} (hL : leavesOf P 40 kT = some L) {k : AV} (hk : fitsK (aggT P kT) L k = true) {b clk : Nat} {es : List MapEntry} (hb : w.heap[b]? = some (.map es.toArray clk))
 {ks : List AV} (hks : KeysAre (aggT P kT) L es ks) (v : Value) :
 ∃ (es' : List MapEntry) (clk' : Nat),(Instr.mapUpdate t (.map (some b)) (tv (aggT P kT) k.cells) v).run P w = .ok () (w.putObj b (.map es'.toArray clk')) ∧ (MapFine es clk → MapFine es' clk') ∧
   match locate k ks with
   | some j => es'.length = es.length ∧ ∀ i e',es'[i]? = some e' → if i = j then e'.key = tv (aggT P kT) k.cells ∧ e'.val = v else es[i]? = some e'
   | none => ∃ e',es' = es ++ [e'] ∧ e'.key = tv (aggT P kT) k.cells ∧ e'.val = v := by
 have hchk := (check_leaves (P := P) (em := false) 40).1 kT L 10000 w k.cells (by decide) hL (fitsK_cells hk)
 have hfind := run_findKey' (w := w) (by decide) hL hk hks
 have hg : (Go.getObj b).run P w = .ok (.map es.toArray clk) w := by simp [Go.getObj,Sem.run,hb]
 have hset : ∀ o',(Go.setObj b o').run P w = .ok () (w.putObj b o') := fun o' => by simp [Go.setObj,Sem.run,hb,World.putObj]
 cases hloc : locate k ks with
 | none =>
   rw [hloc] at hfind
   refine ⟨es ++ [({ key := tv (aggT P kT) k.cells,val := v,born := clk } : MapEntry)],clk + 1,?_,fun hf => ⟨fun e he => ?_,?_⟩,_,rfl,rfl,rfl⟩
   ·have he : (es ++ [({ key := tv (aggT P kT) k.cells,val := v,born := clk } : MapEntry)]).toArray = es.toArray.push { key := tv (aggT P kT) k.cells,val := v,born := clk } := by simp
    rw [he]
    simp [Instr.mapUpdate,run_underlying hu,hg,hchk,hfind,found,hset]
   ·rcases List.mem_append.1 he with he | he
    ·have := hf.lt e he; omega
    ·obtain rfl := List.mem_singleton.1 he
     exact Nat.lt_succ_self _
   ·rw [List.map_append,List.nodup_append]
    refine ⟨hf.nd,by simp,fun x hx y hy => ?_⟩
    obtain ⟨e,he,rfl⟩ := List.mem_map.1 hx
    have := hf.lt e he
    simp only [List.map_cons,List.map_nil,List.mem_singleton] at hy
    omega
 | some j =>
   rw [hloc] at hfind
   obtain ⟨hj,hkj⟩ := locate_some hloc
   have hje : j < es.length := by have := hks.1; omega
   obtain ⟨k1,k2⟩ := hks.2 j _ _ (List.getElem?_eq_getElem hje) (List.getElem?_eq_getElem hj)
   rw [hkj] at k1
   refine ⟨(es.toArray.modify j fun e => { e with key := tv (aggT P kT) k.cells,val := v }).toList,clk,?_,fun hf => ⟨fun e he => ?_,?_⟩,by simp,fun i e' he => ?_⟩
   ·rw [Array.toArray_toList]
    simp [Instr.mapUpdate,run_underlying hu,hg,hchk,hfind,found,hje,k1,run_keyStays hk,hset]
   ·obtain ⟨i,hi⟩ := List.getElem?_of_mem he
    rw [Array.getElem?_toList,Array.getElem?_modify] at hi
    split at hi
    ·rename_i e
     subst e
     simp only [List.getElem?_toArray,List.getElem?_eq_getElem hje,Option.map_some,Option.some.injEq] at hi
     subst hi
     have := hf.lt _ (List.getElem_mem hje)
     exact this
    ·exact hf.lt _ (List.mem_of_getElem? (by simpa using hi))
   ·have : ((es.toArray.modify j fun e => { e with key := tv (aggT P kT) k.cells,val := v }).toList.map (·.born)) = es.map (·.born) := by
     apply List.ext_getElem?
     intro i
     rw [List.getElem?_map,Array.getElem?_toList,Array.getElem?_modify,List.getElem?_map]
     split
     ·rename_i e
      subst e
      simp [hje]
     ·simp
    rw [this]; exact hf.nd
   ·rw [Array.getElem?_toList,Array.getElem?_modify] at he
    by_cases e : i = j
    ·subst e
     rw [if_pos rfl]
     simp only [if_true,List.getElem?_toArray,List.getElem?_eq_getElem hje,Option.map_some,Option.some.injEq] at he
     subst he
     exact ⟨rfl,rfl⟩
    ·rw [if_neg e]
     rw [if_neg (Ne.symm e)] at he
     simpa using he
theorem wp_upd (hs : SimG E G S a w) {t : TypeId} {m k x : Operand} {K : ASt → Prop} (ho : o.op = .mapUpdate t m k x ∨ o.op = .insert t m k x) (h : evUpd E.C S o.dst t (S.val m) (S.val k) (S.val x) K) {next : Act → World → Prop} {Q : Exit → Act → World → Prop}
 (hn : ∀ S' a' w',K S' → Sim E S' a' w' → next a' w') : Owp E o a w next Q := by
 have hm := RepF.val hs m
 have hk0 := RepF.val hs k
 have hx := RepF.val hs x
 unfold evUpd at h
 split at h
 ·rename_i kT eT _ ht
  have hu := (E.C.ok ht).map
  split at h
  ·rename_i ob hob
   rw [hob] at hm
   split at h
   ·rename_i ki kk l hki hkk hl
    obtain ⟨L,hL,hk,hall,l',hl',h⟩ := h
    have hagg := (E.C.ok hki).aggT
    rw [← hagg] at hk hall
    have hkey := fitsK_rep (hk0.toAV hkk) hk
    generalize hev : a.eval m = vm at hm
    cases hm with
    | mapr _ b hb =>
    obtain ⟨b',clk,es,h1,h2,h3,h4,h5⟩ := hs.ext'.mps.at_ ob l hl
    rw [hb] at h1
    obtain rfl := Option.some.inj h1
    have hka := keysAre (w := w) h4 (fun i e p a b => (h5 i e p a b).1) hall
    obtain ⟨es',clk',hrun,hfine,hent⟩ := run_update (w := w) hu hL hk h2 hka (a.eval x)
    have hrun' : (execOp a.eval o).run E.C.P w = .ok .skip (w.putObj b (.map es'.toArray clk')) := by
     rcases ho with ho | ho <;> simp [execOp,ho,hev,hkey,hrun]
    have hg := hs.updMap (l' := l') hb h2 (hfine h3) (by
     rw [← hl',updM_locate]
     cases hloc : locate kk (keysOf l) with
     | none =>
       rw [hloc] at hent
       obtain ⟨e',rfl,-,-⟩ := hent
       simp [h4]
     | some j =>
       rw [hloc] at hent
       simp [hent.1,h4]) (by
     intro i e p he hp
     rw [← hl',updM_locate] at hp
     cases hloc : locate kk (keysOf l) with
     | none =>
       rw [hloc] at hent hp
       simp only at hp
       obtain ⟨e',rfl,q1,q2⟩ := hent
       by_cases hi : i < es.length
       ·rw [List.getElem?_append_left hi] at he
        rw [List.getElem?_append_left (by omega)] at hp
        exact h5 i e p he hp
       ·rw [List.getElem?_append_right (by omega)] at he
        rw [List.getElem?_append_right (by omega),← h4] at hp
        cases hz : i - es.length with
        | zero =>
          rw [hz] at he hp
          simp at he hp
          subst he; subst hp
          exact ⟨by rw [q1,← hkey]; exact hk0.toAV hkk,by rw [q2]; exact hx⟩
        | succ z => rw [hz] at he; simp at he
     | some j =>
       rw [hloc] at hent hp
       simp only at hp
       have := hent.2 i e he
       by_cases e0 : i = j
       ·subst e0
        rw [if_pos rfl] at this
        have hil : i < l.length := by
         have := (List.getElem?_eq_some_iff.1 hp).1
         simpa using this
        rw [List.getElem?_set_self hil] at hp
        obtain rfl := Option.some.inj hp
        exact ⟨by rw [this.1,← hkey]; exact hk0.toAV hkk,by rw [this.2]; exact hx⟩
       ·rw [if_neg e0] at this
        rw [List.getElem?_set_ne (Ne.symm e0)] at hp
        exact h5 i e p this hp)
    refine ⟨fun f _ => Env.fence_fn f,?_⟩
    rw [Oper.semAt_eq _ _ _ (fun c => by rcases ho with ho | ho <;> rw [ho] <;> simp),hrun']
    exact hn _ _ _ h ⟨G,hg.put o.dst (v := undef) (.p _ _ (Rep.tup (imm := G.imm) [] [] rfl (fun i c x h _ => by cases i <;> cases h)))⟩
   ·exact h.elim
  ·exact h.elim
 ·exact h.elim
theorem leftL_push {es : List MapEntry} (hnd : (es.map (·.born)).Nodup) {seen : Array Nat} {A B : List MapEntry} {e : MapEntry} (h : leftL es seen = A ++ e :: B) : leftL es (seen.push e.born) = A ++ B := by
 have h1 : leftL es (seen.push e.born) = (leftL es seen).filter (fun x => x.born != e.born) := by
  unfold leftL
  rw [List.filter_filter]
  apply List.filter_congr
  intro x _
  by_cases hx : x.born = e.born <;> simp [hx]
 have hnd2 : ((leftL es seen).map (·.born)).Nodup := by
  unfold leftL
  exact (List.Sublist.map _ (List.filter_sublist)).nodup hnd
 rw [h1,h]
 rw [h,List.map_append,List.map_cons,List.nodup_append] at hnd2
 obtain ⟨n1,n2,n3⟩ := hnd2
 rw [List.nodup_cons] at n2
 rw [List.filter_append,List.filter_cons]
 simp only [bne_self_eq_false,Bool.false_eq_true,if_false]
 rw [List.filter_eq_self.2,List.filter_eq_self.2]
 ·intro x hx
  simp only [bne_iff_ne,ne_eq]
  intro e1
  exact n2.1 (e1 ▸ List.mem_map_of_mem hx)
 ·intro x hx
  simp only [bne_iff_ne,ne_eq]
  intro e1
  exact n3 _ (List.mem_map_of_mem hx) _ (List.mem_cons_self ..) e1
theorem wp_next (hs : SimG E G S a w) {it : Operand} {K : ASt → Prop} (ho : o.op = .next it false) (h : evNext S o.dst (S.val it) K) {next : Act → World → Prop} {Q : Exit → Act → World → Prop}
 (hn : ∀ S' a' w',K S' → Sim E S' a' w' → next a' w') : Owp E o a w next Q := by
 have hx := RepF.val hs it
 unfold evNext at h
 split at h
 ·rename_i q hq
  rw [hq] at hx
  generalize hev : a.eval it = vi at hx
  cases hx with
  | itr _ r hr =>
  split at h
  ·exact h.elim
  ·rename_i cur l hl
   obtain ⟨hnil,hcons⟩ := h
   obtain ⟨r',hr',hit⟩ := hs.ext'.mps.its q _ hl
   rw [hr] at hr'
   obtain rfl := Option.some.inj hr'
   have hover : ∀ (hrun : (Instr.next (.pointer (some ⟨r,0,none⟩)) false o.type).run E.C.P w = .ok (.tuple #[.bool false]) w) (hl0 : l = []),Owp E o a w next Q := fun hrun hl0 => by
    refine wp_value (v := .tuple #[.bool false]) (w' := w) ?_ (hn _ _ _ (hnil hl0) ⟨G,hs.put o.dst ?_⟩)
    ·simp [execOp,ho,hev,hrun]
    ·refine .tup [.bool false] [.p (.bool false)] rfl fun i c y h1 h2 => ?_
     match i,h1,h2 with
     | 0,h1,h2 => cases h1; cases h2; exact .p _ _ (.bool _)
   rcases hit with ⟨h1,h2⟩ | ⟨m,clk,es,seen,h1,h2,h3,h4,h5,h6⟩
   ·obtain ⟨-,rfl⟩ := Prod.mk.inj h1
    refine hover ?_ rfl
    simp [Instr.next,Go.getObj,Sem.run,h2]
   ·rcases run_next_at (P := E.C.P) w o.type r m clk clk seen es.toArray clk h1 h2 (fun x hx => h4.lt x (by simpa using hx)) (Nat.le_refl _) with ⟨g1,g2⟩ | ⟨e,g1,w1,g2,g3⟩
    ·refine hover g2 ?_
     have : (leftL es seen).length = 0 := by
      have : (leftOf es.toArray seen).toList = leftL es seen := by simp [leftOf,leftL]
      rw [← this]; simpa using g1
     exact List.length_eq_zero_iff.1 (by have := h5.1; simp only at this; omega)
    ·have hlo : (leftOf es.toArray seen).toList = leftL es seen := by simp [leftOf,leftL]
     rw [hlo] at g1
     obtain ⟨A',B',hAB⟩ := List.append_of_mem g1
     have hlen : A'.length < l.length := by
      have h7 := h5.1
      simp only at h7
      rw [← h7,hAB]
      simp
     have hsplit : l = l.take A'.length ++ l[A'.length] :: l.drop (A'.length + 1) := by
      rw [List.getElem_cons_drop,List.take_append_drop]
     have hK := hcons _ _ _ hsplit
     have hem : e ∈ es := (List.mem_filter.1 g1).1
     obtain ⟨p1,p2⟩ := h5.2 A'.length e l[A'.length] (by rw [hAB]; simp) (List.getElem?_eq_getElem hlen)
     have hs1 : SimG E G S a w1 := by
      rcases g2 with rfl | rfl
      ·exact hs
      ·exact hs.drew
     have hh1 : w1.heap[r]? = some (.mapIter (some m) clk seen clk) := by rcases g2 with rfl | rfl <;> exact h1
     have hm1 : w1.heap[m]? = some (.map es.toArray clk) := by rcases g2 with rfl | rfl <;> exact h2
     have up : ∀ {v : Value} {y : AV},Rep G.imm w v y → Rep G.imm w1 v y := fun {v y} hv => by
      rcases g2 with rfl | rfl
      ·exact hv
      ·exact hv.keep (fun _ _ h => h) (fun _ _ _ _ h => h) (fun _ _ _ _ h => h)
     have hg := hs1.updIt (q := q) (r := r) (m' := some m) (s' := clk) (c' := clk) (seen' := seen.push e.born) (x := (some l[A'.length],l.take A'.length ++ l.drop (A'.length + 1))) hr hh1 (fun keep hst hat => by
      refine .inr ⟨m,clk,es,seen.push e.born,hat,hst m _ _ h3 hm1,h3,h4,?_,fun p hp => ?_⟩
      ·rw [leftL_push h4.nd hAB]
       have h7 := h5.1
       simp only at h7
       rw [hAB] at h7
       simp only [List.length_append,List.length_cons] at h7
       refine ⟨by simp only [List.length_append,List.length_take,List.length_drop]; omega,fun i e' p he hp => ?_⟩
       simp only at hp
       by_cases hi : i < A'.length
       ·rw [List.getElem?_append_left hi] at he
        rw [List.getElem?_append_left (by rw [List.length_take]; omega),List.getElem?_take_of_lt hi] at hp
        obtain ⟨y1,y2⟩ := h5.2 i e' p (by rw [hAB,List.getElem?_append_left hi]; exact he) hp
        exact ⟨keep _ _ (up y1),keep _ _ (up y2)⟩
       ·rw [List.getElem?_append_right (by omega)] at he
        rw [List.getElem?_append_right (by rw [List.length_take]; omega),List.length_take,Nat.min_eq_left (by omega),List.getElem?_drop] at hp
        obtain ⟨y1,y2⟩ := h5.2 (i + 1) e' p (by rw [hAB,List.getElem?_append_right (by omega),show i + 1 - A'.length = (i - A'.length) + 1 by omega,List.getElem?_cons_succ]; exact he) (by rw [← hp]; congr 1; omega)
        exact ⟨keep _ _ (up y1),keep _ _ (up y2)⟩
      ·obtain rfl := Option.some.inj hp
       exact ⟨e,seen,hem,rfl,keep _ _ (up p1),keep _ _ (up p2)⟩)
     have hkeep : ∀ {v : Value} {y : AV},Rep G.imm w v y → Rep G.imm (w1.putObj r (.mapIter (some m) clk (seen.push e.born) clk)) v y := fun {v y} hv => by
      have hv1 := up hv
      exact hv1.keep (fun _ _ h => h) (fun b i c _ h => by rw [cell_putObj hh1 rfl rfl]; exact h) (stands_putObj hh1 fun ⟨es,k,h⟩ => by cases h)
     refine wp_value (v := .tuple #[.bool true,e.key,e.val]) (w' := w1.putObj r (.mapIter (some m) clk (seen.push e.born) clk)) ?_ (hn _ _ _ hK ⟨G,hg.put o.dst ?_⟩)
     ·simp only [execOp,ho,hev,Sem.run_bind,g3,Result.andThen_ok,Sem.run_pure]
      rfl
     ·refine .tup [.bool true,e.key,e.val] [.p (.bool true),.p l[A'.length].1,.p l[A'.length].2] rfl fun i c y z1 z2 => ?_
      match i,z1,z2 with
      | 0,z1,z2 => cases z1; cases z2; exact .p _ _ (.bool _)
      | 1,z1,z2 => cases z1; cases z2; exact .p _ _ (hkeep p1)
      | 2,z1,z2 => cases z1; cases z2; exact .p _ _ (hkeep p2)
 ·exact h.elim
theorem getObj_fm {d o : Nat} {z : AV} {cells : List FV} : ∀ {l : List (Nat × List FV)},Qv.getObj (fmObjs d z l) o = some cells → ∃ cs,Qv.getObj l o = some cs ∧ cells = FV.fmL d z cs := by
 intro l
 induction l with
 | nil => intro h; cases h
 | cons p l ih =>
   obtain ⟨u,i⟩ := p
   intro h
   simp only [fmObjs,Qv.getObj] at h ⊢
   split at h
   ·obtain rfl := Option.some.inj h
    exact ⟨i,rfl,rfl⟩
   ·exact ih h
theorem getObj_fm_none {d o : Nat} {z : AV} {l : List (Nat × List FV)} (h : Qv.getObj l o = none) : Qv.getObj (fmObjs d z l) o = none := by
 cases h' : Qv.getObj (fmObjs d z l) o with
 | none => rfl
 | some cs =>
   obtain ⟨cs',h2,-⟩ := getObj_fm h'
   rw [h] at h2
   cases h2
theorem SimG.frzMup (hs : SimG E G S a w) {d : Nat} {ks vs : List AV} (hf : FrzM S d ks vs) : ∃ G',SimG E G' (S.frzM d (.mp ks vs)) a w ∧ ∀ v x,RepF G w v x → RepF G' w v (x.fm d (.mp ks vs)) := by
 obtain ⟨l,hl,rfl,hv⟩ := hf.mp
 have hm := hs.ext'.mps
 obtain ⟨B,clk,es,h1,h2,h3,h4,h5⟩ := hm.at_ d l hl
 obtain ⟨q1,q2,-⟩ := hm.loc d B h1
 obtain ⟨hlen,hget⟩ := FV.toAVs_get hv
 let G' : Ghost := { G with imm := fun b o => G.imm b o ∨ (b = B ∧ o = 0),mp := fun o => if o = d then none else G.mp o }
 have hBlt := (Array.getElem?_eq_some_iff.1 h2).1
 have kp : ∀ {v : Value} {y : AV},Rep G.imm w v y → Rep G'.imm w v y := fun hv => hv.keep (fun b o h => .inl h) (fun _ _ _ _ h => h) (.refl _ _)
 have fmp : ∀ o b,G'.mp o = some b → o ≠ d ∧ G.mp o = some b := fun o b h => by
  simp only [G'] at h
  split at h
  ·cases h
  ·rename_i hne; exact ⟨hne,h⟩
 have hz : Rep G'.imm w (.map (some B)) (.mp (keysOf l) vs) := by
  refine .mp B clk es (keysOf l) vs (by rw [keysOf_eq,List.length_map]; exact h4.symm) (by rw [hlen,valsOf_eq,List.length_map]; exact h4.symm) (.inr ⟨rfl,rfl⟩) h2 h3 (fun i e x he hx => ?_) (fun i e x he hx => ?_)
  ·rw [keysOf_eq,List.getElem?_map] at hx
   cases hp : l[i]? with
   | none => simp [hp] at hx
   | some p =>
     simp only [hp,Option.map_some,Option.some.injEq] at hx
     subst hx
     exact kp (h5 i e p he hp).1
  ·obtain ⟨y,hy,hyx⟩ := hget i x hx
   rw [valsOf_eq,List.getElem?_map] at hy
   cases hp : l[i]? with
   | none => simp [hp] at hy
   | some p =>
     simp only [hp,Option.map_some,Option.some.injEq] at hy
     subst hy
     exact kp ((h5 i e p he hp).2.toAV hyx)
 have up : ∀ v x,RepF G w v x → RepF G' w v (x.fm d (.mp (keysOf l) vs)) := fun v x hv =>
  hv.fm (fun b o h => .inl h) (fun b hb => by rw [h1] at hb; exact Option.some.inj hb ▸ hz) (fun _ _ h => h) (fun _ _ h => h) (fun _ _ h => h) (fun o b hne h => by simp only [G']; rw [if_neg hne]; exact h) (fun _ _ h => h)
 have hmv : Moves (FV.fm d (.mp (keysOf l) vs)) G G' S (S.frzM d (.mp (keysOf l) vs)) w := by
  refine ⟨fun _ => rfl,fun o l' h => ?_,fun q x h => ⟨h,fun _ h => h⟩,fun o b h => (fmp o b h).2,fun _ _ h => h,fun b i es' k hb ho h => ?_,fun _ h => .inl h,fun _ _ h => .inl h⟩
  ·obtain ⟨l0,g1,g2⟩ := getM_mapMs h
   obtain ⟨g3,g4⟩ := getM_del g1
   exact ⟨l0,g4,g2,fun b hb => by simp only [G']; rw [if_neg g3]; exact hb⟩
  ·rcases h with h | ⟨rfl,-⟩
   ·exact h
   ·obtain ⟨o,ho⟩ := ho
    obtain ⟨g1,g2⟩ := fmp o _ ho
    exact absurd (hm.inj o d _ g2 h1) g1
 refine ⟨G',⟨hs.kept,hs.size,hs.ext'.move (S' := S.frzM d (.mp (keysOf l) vs)) (FV.fm d (.mp (keysOf l) vs)) rfl rfl rfl up (.refl _) hmv,?_,?_,?_,fun i hi => up _ _ (hs.tmps i hi),fun o cs ho => ?_,fun o b ho => ?_,hs.locInj,fun o t b r h h' => TailOK.mono (hs.locTail o t b r h h') (fun bs q => ⟨bs,q⟩) (fun cs q => ?_),fun t b s e T h => ?_,hs.tailInj⟩,up⟩
 ·refine hs.bld.keep rfl rfl (fun o bs q => ⟨q,rfl,rfl⟩) (fun o _ _ q => getObj_fm_none q) (fun _ _ e => e) (Nat.le_refl _) (fun _ _ _ _ _ _ => rfl) (fun _ _ _ => rfl) (fun o r i e hi => ?_) (fun _ _ o' _ e => e) (fun _ _ t q _ e => ⟨t,q,e⟩)
  rcases hi with hi | ⟨rfl,-⟩
  ·exact hi
  ·obtain ⟨cs,T,fr,g⟩ := hs.bld.rowC o _ e
   rw [h2] at g; cases g
 ·rintro b o (h | ⟨rfl,-⟩)
  ·exact hs.immB b o h
  ·exact .inr q1
 ·rintro b o (h | ⟨rfl,-⟩)
  ·exact hs.immLt b o h
  ·exact hBlt
 ·obtain ⟨cs0,g2,rfl⟩ := getObj_fm ho
  obtain ⟨b,g3,g4⟩ := hs.objs o cs0 g2
  refine ⟨b,g3,fun i x hx => ?_⟩
  rw [FV.fmL_eq,List.getElem?_map] at hx
  cases hq : cs0[i]? with
  | none => simp [hq] at hx
  | some y =>
    simp [hq] at hx
    subst hx
    obtain ⟨c,g5,g6⟩ := g4 i y hq
    exact ⟨c,g5,up _ _ g6⟩
 ·obtain ⟨k1,k2,k3⟩ := hs.locs o b ho
  refine ⟨k1,k2,fun i => ⟨?_,(k3 i).2⟩⟩
  rintro (h | ⟨rfl,-⟩)
  ·exact (k3 i).1 h
  ·exact hm.apart d o _ h1 ho
 ·obtain ⟨cs0,g2,rfl⟩ := getObj_fm q
  exact ⟨cs0,g2,by rw [FV.fmL_eq,List.length_map]⟩
 ·obtain ⟨k1,k2,⟨cs,fr,kt⟩,k3⟩ := hs.tails t b s e T h
  refine ⟨k1,k2,⟨cs,fr,kt⟩,fun i hi hi' => ?_⟩
  obtain ⟨k4,k5,k6⟩ := k3 i hi hi'
  refine ⟨k4,k5,?_⟩
  rintro (h7 | ⟨rfl,-⟩)
  ·exact k6 h7
  ·rw [h2] at kt; cases kt
theorem SimG.frzM (hs : SimG E G S a w) {d : Nat} {ks vs : List AV} (hf : FrzM S d ks vs) : ∃ G',SimG E G' (S.frzM d (.mp ks vs)) a w :=
 let ⟨G',h,_⟩ := hs.frzMup hf
 ⟨G',h⟩
theorem wp_rangeMp (hs : SimG E G S a w) {d : Nat} {t : TypeId} {x : Operand} {K : ASt → Prop} (ho : o.op = .range t x) (hd : o.dst = some d) {kT eT : TypeId} (hu : E.C.P.underlying t = some (.map kT eT)) {ks vs : List AV} (hx : RepF G w (a.eval x) (.p (.mp ks vs)))
 (h : newItK S d (zipA ks vs) K) {next : Act → World → Prop} {Q : Exit → Act → World → Prop} (hn : ∀ S' a' w',K S' → Sim E S' a' w' → next a' w') : Owp E o a w next Q := by
 generalize hev : a.eval x = vx at hx
 have hkeep : ∀ {ob : Obj} {v : Value} {y : AV},Rep G.imm w v y → Rep (fun b o => G.imm b o ∨ (w.heap.size ≤ b ∧ b < (w.alloc ob).heap.size ∧ False)) (w.alloc ob) v y := fun {ob v y} hv =>
  hv.keep (fun b o h => .inl h) (fun b o c hi hc => by rw [World.cell?_alloc_lt _ _ _ (hs.immLt b o hi)]; exact hc) (stands_alloc _ _ _)
 cases hx with
 | p _ _ hx =>
 cases hx with
 | mp b clk es _ _ h1 h2 h3 h4 h5 h6 h7 =>
 unfold newItK at h
 rw [withNm_eq] at h
 obtain ⟨z1,z2⟩ := zipA_get (ks := ks) (xs := vs) (by omega)
 have hblt := (Array.getElem?_eq_some_iff.1 h4).1
 have hleft : leftL es #[] = es := by simp [leftL]
 obtain ⟨G',hg⟩ := newIt_sound hs d (m := some b) (s := clk) (c := clk) (l := zipA ks vs) (.inr ⟨b,clk,es,#[],World.alloc_heap_new w _,stands_alloc _ _ _ b _ _ h3 h4,.inl h3,h5,⟨by rw [hleft]; show es.length = (zipA ks vs).length; omega,fun i e p he hp => by
  rw [hleft] at he
  obtain ⟨q1,q2⟩ := z2 i p hp
  exact ⟨hkeep (h6 i e _ he q1),hkeep (h7 i e _ he q2)⟩⟩,fun p hp => by cases hp⟩)
 refine wp_value (v := .pointer (some ⟨w.heap.size,0,none⟩)) (w' := w.alloc (.mapIter (some b) clk #[] clk)) ?_ (hn _ _ _ h ⟨G',hd ▸ hg⟩)
 have hgo : (Go.getObj b).run E.C.P w = .ok (.map es.toArray clk) w := by simp [Go.getObj,Sem.run,h4]
 have : (Instr.range t (.map (some b))).run E.C.P w = .ok (.pointer (some ⟨w.heap.size,0,none⟩)) (w.alloc (.mapIter (some b) clk #[] clk)) := by
  simp only [Instr.range,Sem.run_bind,run_underlying hu,Result.andThen_ok,hgo]
  rfl
 simp [execOp,ho,hev,this]
theorem wp_rangeM (hs : SimG E G S a w) {d : Nat} {t : TypeId} {x : Operand} {K : ASt → Prop} (ho : o.op = .range t x) (hd : o.dst = some d) (h : evRangeM E.C S d t (S.val x) K) {next : Act → World → Prop} {Q : Exit → Act → World → Prop}
 (hn : ∀ S' a' w',K S' → Sim E S' a' w' → next a' w') : Owp E o a w next Q := by
 have hx := RepF.val hs x
 unfold evRangeM at h
 split at h
 ·rename_i kT eT _ ht
  have hu := (E.C.ok ht).map
  generalize hev : a.eval x = vx at hx
  have hkeep : ∀ {ob : Obj} {v : Value} {y : AV},Rep G.imm w v y → Rep (fun b o => G.imm b o ∨ (w.heap.size ≤ b ∧ b < (w.alloc ob).heap.size ∧ False)) (w.alloc ob) v y := fun {ob v y} hv =>
   hv.keep (fun b o h => .inl h) (fun b o c hi hc => by rw [World.cell?_alloc_lt _ _ _ (hs.immLt b o hi)]; exact hc) (stands_alloc _ _ _)
  split at h
  ·rename_i hnil
   rw [hnil] at hx
   cases hx with
   | p _ _ hx =>
   cases hx
   unfold newItK at h
   rw [withNm_eq] at h
   obtain ⟨G',hg⟩ := newIt_sound hs d (m := none) (s := 0) (c := 0) (l := []) (.inl ⟨rfl,World.alloc_heap_new w _⟩)
   refine wp_value (v := .pointer (some ⟨w.heap.size,0,none⟩)) (w' := w.alloc (.mapIter none 0 #[] 0)) ?_ (hn _ _ _ h ⟨G',hd ▸ hg⟩)
   have : (Instr.range t (.map none)).run E.C.P w = .ok (.pointer (some ⟨w.heap.size,0,none⟩)) (w.alloc (.mapIter none 0 #[] 0)) := by
    simp only [Instr.range,Sem.run_bind,run_underlying hu,Result.andThen_ok]
    rfl
   simp [execOp,ho,hev,this]
  ·rename_i ks vs hmp
   rw [hmp] at hx
   exact wp_rangeMp hs ho hd hu (by rw [hev]; exact hx) h hn
  ·rename_i ob hmp
   rw [hmp,← hev] at hx
   obtain ⟨ks,vs,hf,h⟩ := h
   obtain ⟨G',hs',up⟩ := hs.frzMup hf
   have hx' := up _ _ hx
   have e : (FV.mapr ob).fm ob (.mp ks vs) = .p (.mp ks vs) := by simp [FV.fm]
   rw [e] at hx'
   exact wp_rangeMp hs' ho hd hu hx' h hn
  ·exact h.elim
 ·exact h.elim
end
end Qv

end

section
namespace Qv
open Go Go.RowKit
section
variable {E : Env} {G : Ghost} {S : ASt} {a : Act} {w : World} {o : Oper}
theorem rep_undef (G : Ghost) (w : World) : RepF G w undef (.p (.tup [])) :=
 .p _ _ (Rep.tup (imm := G.imm) (w := w) [] [] rfl (fun i c x h _ => by cases i <;> cases h))
theorem got_sound (hs : SimG E G S a w) {dst : Option Nat} {r : Ret} {v : Value} {w' : World} (hb : Below w.heap.size w w') (hok : RetOK G.imm w.heap.size w' v r) :
 ∃ G',SimG E G' (S.got dst r) (a.put dst v) w' := by
 cases r with
 | val x => exact ⟨_,(hs.ext hb).put dst (RetOK.plainF (r := .val x) hok)⟩
 | vf x => exact ⟨_,(hs.ext hb).put dst (RetOK.plainF (r := .vf x) hok)⟩
 | fresh T esz xs =>
   cases dst with
   | none => exact ⟨_,hs.ext hb⟩
   | some d0 =>
     simp only [ASt.got]
     generalize hd : S.off + d0 = d
     obtain ⟨ad,c,rfl,⟨rfl,rfl,h⟩ | ⟨b,off,cs,fr,rfl,h1,h2,h3,hty,h4,h5⟩⟩ := hok
     ·have hr : Rep (fun b o => G.imm b o ∨ (w.heap.size ≤ b ∧ b < w'.heap.size)) w' (.slice ad ([] : List (List AV)).length 0) (.sl []) :=
       h.keep2 (fun b o c hi hc => ⟨hi.imp id fun h => ⟨h,World.block_lt_of_cell? w' _ hc⟩,hc⟩) fun b es k hi hb => ⟨hi.imp id fun h => ⟨h,(Array.getElem?_eq_some_iff.1 hb).1⟩,hb⟩
      exact ⟨_,((hs.ext hb).kill d).put (some d0) (x := .tip d T esz []) (.tip d T esz [] ad 0 hr (.inl ⟨rfl,rfl⟩))⟩
     ·have hg := ((hs.extN hb fun b' o => ¬ (b' = b ∧ off + xs.length * esz ≤ o ∧ o < off + c * esz)).kill d).addTail (t := d) (B := b) (s := off + xs.length * esz) (e := off + c * esz) (T := T) (kill_none _ d) h2 (Nat.le_trans hs.kept.size h1) ⟨cs,fr,hty⟩
       (fun o h => by
        simp only [Ghost.free] at h
        split at h
        ·cases h
        ·have := (hs.locs o _ h).1; omega)
       (fun t' r h => by
        simp only [Ghost.free] at h
        split at h
        ·cases h
        ·have := (hs.tails t' _ r.1 r.2.1 r.2.2 h).1; omega)
       (fun o h => by
        simp only [Ghost.free] at h
        split at h
        ·cases h
        ·have := (hs.bld.row o _ h).2.1; omega)
       (fun i hi hi' => by
        obtain ⟨g1,g2⟩ := h4 i hi hi'
        refine ⟨g1,g2,?_⟩
        rintro (h | ⟨-,-,h⟩)
        ·have := hs.immLt _ _ h; omega
        ·exact h ⟨rfl,hi,hi'⟩)
      refine ⟨_,hg.put (some d0) (x := .tip d T esz xs) (.tip d T esz xs _ c ?_ (.inr ⟨b,off,rfl,h3,by simp⟩))⟩
      exact h5.keep2 (fun b o c hi hc => ⟨hi.imp id fun h => ⟨h.1,World.block_lt_of_cell? w' _ hc,h.2⟩,hc⟩) fun b es k hi hb => ⟨hi.imp id fun h => ⟨h.1,(Array.getElem?_eq_some_iff.1 hb).1,h.2⟩,hb⟩
theorem mapP_length : ∀ l : List AV,(mapP l).length = l.length
 | [] => rfl
 | a :: l => by show (mapP l).length + 1 = l.length + 1; rw [mapP_length l]
theorem mapP_get : ∀ (l : List AV) (i : Nat),(mapP l)[i]? = (l[i]?).map FV.p
 | [],i => by simp [mapP]
 | a :: l,0 => rfl
 | a :: l,i + 1 => by
   show (mapP l)[i]? = (l[i]?).map FV.p
   exact mapP_get l i
theorem flatten_len {α : Type} {e : Nat} : ∀ {l : List (List α)},(∀ zs,zs ∈ l → zs.length = e) → l.flatten.length = l.length * e
 | [],_ => by simp
 | zs :: l,h => by
   rw [List.flatten_cons,List.length_append,h zs List.mem_cons_self,flatten_len fun x hx => h x (List.mem_cons_of_mem _ hx),List.length_cons,Nat.add_mul,Nat.one_mul,Nat.add_comm]
theorem wp_evAppend (hs : SimG E G S a w) {d : Nat} {K : ASt → Prop} {x y : Operand} {t u : TypeId} (ho : o.op = .call ⟨.builtin .append,#[x,y],#[t,u]⟩) (hd : o.dst = some d)
 (h : evAppend E.C t u d S (S.val x) (S.val y) K) {next : Act → World → Prop} {Q : Exit → Act → World → Prop}
 (hn : ∀ S' a' w',K S' → Sim E S' a' w' → next a' w') : Owp E o a w next Q := by
 have hx := RepF.val hs x
 have hy := RepF.val hs y
 generalize S.val x = vx at h hx
 generalize S.val y = vy at h hy
 unfold evAppend at h
 split at h
 ·rename_i e _ ui ht hui
  have hut := (E.C.ok ht).slice
  obtain ⟨dd,hud,hsh⟩ := (E.C.ok hui).und'
  split at h
  ·exact h.elim
  ·rename_i hlist
   have hdk : ∀ k,dd ≠ .int k := fun k e => by rw [← hsh,e] at hlist; simp [shapeOf,Shape.listy] at hlist
   split at h
   ·exact h.elim
   ·rename_i j hj
    have hok := E.C.ok hj
    split at h
    ·exact h.elim
    ·rename_i ys hys
     have fin : ∀ {k : Nat} {xs : List (List AV)} {ad : Option Addr} {c : Nat},a.eval x = .slice ad xs.length c → Rep G.imm w (.slice ad xs.length c) (.sl xs) → (∀ zs,zs ∈ xs → zs.length = j.size) →
      ((xs = [] ∧ c = 0) ∨ (ys ≠ [] ∧ c = xs.length) ∨ ∃ b off,ad = some ⟨b,off,none⟩ ∧ G.tail k = some (b,off + xs.length * j.size,off + c * j.size,e)) →
      (∀ zs,zs ∈ ys → zs.length = j.size) → (xs.length + ys.length) * j.bytes ≤ 2 ^ 47 → j.bytes ≠ 0 → K ((S.kill k).put (some d) (.tip k e j.size (xs ++ ys))) → Owp E o a w next Q := fun {k xs ad c} ev hr hlx hroom hly hb hb0 hK => by
      obtain ⟨news,n1,n2,n3⟩ := hy.items (P := E.C.P) (e := j.size) hys hly
      obtain ⟨_,_,hv,hle,-⟩ := hr.sl_inv
      have hcle : xs.length ≤ c := by injection hv with e1 e2 e3; omega
      obtain ⟨v',w',G',r1,r2,r3⟩ := append_core (ty := o.type) hs hut hud hdk hok hr hlx hly hcle hroom n1 n2 n3 hb hb0
      refine wp_value (v := v') (w' := w') ?_ (hn _ _ _ hK ⟨G',?_⟩)
      ·simp [execOp,ho,resolve,invoke,builtin,ev,r1]
      ·rw [hd]
       exact r2.put (some d) r3
     split at h
     ·rename_i k T esz xs
      split at h
      ·rename_i he hb0 hT
       obtain rfl := Nat.eq_of_beq_eq_true he
       obtain rfl := Nat.eq_of_beq_eq_true hT
       obtain ⟨hlx,hly,hb,zs,rfl,hK⟩ := h
       generalize hev : a.eval x = v at hx
       cases hx with
       | tip _ _ _ _ ad c hr hroom =>
       exact fin hev hr hlx (hroom.imp id fun ⟨b,off,e1,_,e2⟩ => .inr ⟨b,off,e1,e2⟩) hly hb (Nat.ne_of_beq_eq_false hb0) hK
      ·exact h.elim
     ·rename_i k T esz
      split at h
      ·rename_i he hT hb0
       obtain rfl := Nat.eq_of_beq_eq_true he
       obtain rfl := Nat.eq_of_beq_eq_true hT
       have hb0 := Nat.ne_of_beq_eq_false hb0
       split at h
       ·exact h.elim
       ·rename_i xs hxs
        obtain ⟨hkn,hxs⟩ := getO_some hxs
        obtain ⟨n,hn1,hly,hbd,zs,rfl,hK⟩ := h
        obtain ⟨news,n1,n2,n3⟩ := hy.items (P := E.C.P) (e := j.size) hys hly
        generalize hevy : a.eval y = vy at hy n2 n3
        generalize hevx : a.eval x = vv at hx
        cases hx with
        | osl _ _ _ n' c b p1 p2 p3 p4 =>
        have nl : news.length = ys.length * j.size := n1.len
        have hyl : (mapP ys.flatten).length = ys.length * j.size := by
         rw [mapP_length]
         exact flatten_len hly
        have nr : ∀ (i : Nat) (z : FV),(mapP ys.flatten)[i]? = some z → ∃ u,news[i]? = some u ∧ RepF G w u z := fun i z hz => by
         rw [mapP_get] at hz
         have hi : i < ys.length * j.size := by
          rw [← flatten_len hly]
          cases hq : ys.flatten[i]? with
          | none => rw [hq] at hz; cases hz
          | some q => exact (List.getElem?_eq_some_iff.1 hq).1
         have hq : i / j.size < ys.length := Nat.div_lt_of_lt_mul (by rw [Nat.mul_comm]; exact hi)
         have hr : i % j.size < (ys[i / j.size]).length := by
          rw [hly _ (List.getElem_mem hq)]
          exact Nat.mod_lt _ p4
         have hii : i / j.size * j.size + i % j.size = i := Nat.div_add_mod' i j.size
         have h1 := List.getElem?_eq_getElem hq
         have h2 := List.getElem?_eq_getElem hr
         have h3 := flatten_get hly h1 h2
         rw [hii] at h3
         rw [h3] at hz
         obtain rfl := Option.some.inj hz
         obtain ⟨u,e1,e2,-⟩ := n1.at_ _ _ _ _ h1 h2
         rw [hii] at e1
         exact ⟨u,e1,.p _ _ e2⟩
        have hxl := (hs.locTail _ _ _ _ p1 p2).2.2 xs hxs
        simp only at hxl
        obtain rfl : n = n' := Nat.eq_of_mul_eq_mul_right p4 (hn1.symm.trans hxl)
        obtain ⟨t1,t2,tt,t3⟩ := hs.tails _ _ _ _ _ p2
        by_cases hc : n + ys.length ≤ c
        ·have hq : n * j.size + news.length ≤ c * j.size := by
          have := Nat.mul_le_mul_right j.size hc
          rw [Nat.add_mul] at this
          omega
         have hrun := run_app_room (P := E.C.P) (w := w) (ty := o.type) (b := b) (off := 0) hut hud hdk hok n2 (n3 w fun _ _ => rfl) hc
          (fun q hq' => by rw [Nat.zero_add]; obtain ⟨⟨u,hu⟩,-,-⟩ := t3 (n * j.size + q) (by omega) (by omega); rw [hu]; rfl)
          (fun q hq' => by rw [Nat.zero_add]; exact (t3 (n * j.size + q) (by omega) (by omega)).2.1) n1.one
         rw [Nat.zero_add] at hrun
         have hg := hs.fillOpen (news := news) hxs p1 p2 hq nr (by omega)
         have hex : (execOp a.eval o).run E.C.P w = .ok (.value (.slice (some ⟨b,0,none⟩) (n + ys.length) c)) (w.setCells b (n * j.size) news) := by
          simp [execOp,ho,resolve,invoke,builtin,hevx,hevy,hrun]
         refine wp_value hex (hn _ _ _ hK ⟨{ G with tail := fun t => if t = k then some (b,n * j.size + news.length,c * j.size,T) else G.tail t },?_⟩)
         rw [hd]
         refine hg.put (some d) (v := .slice (some ⟨b,0,none⟩) (n + ys.length) c) (x := .osl k T j.size) (.osl k T j.size (n + ys.length) c b p1 ?_ hc p4)
         simp only [if_true]
         rw [nl,Nat.add_mul]
        ·obtain ⟨olds,ol,or',of'⟩ := open_cells (P := E.C.P) hs hxs p1 p2
         obtain ⟨rest,z,hz,hrest,hrun⟩ := run_app_grow (P := E.C.P) (w := w) (ty := o.type) (news := news) (olds := olds) hut hud hdk hok n2 n3 of' hc hbd hb0
         have hcap : n + ys.length ≤ grownCap w (n + ys.length) c T := grownCap_ge w _ _ _
         generalize hcg : grownCap w (n + ys.length) c T = cap at *
         have hrl : rest.size = (cap - (n + ys.length)) * j.size := by rw [hrest,size_zeroCells,hz]
         have hcl : (olds ++ news ++ rest.toList).length = cap * j.size := by
          simp only [List.length_append,ol,nl,Array.length_toList,hrl,← Nat.add_mul]
          rw [show n + ys.length + (cap - (n + ys.length)) = cap from by omega]
         obtain ⟨G',g1,g2,g3⟩ := grow_open hs.drew k hkn (zs := xs ++ mapP ys.flatten) (cells := olds ++ news ++ rest.toList) (s := (n + ys.length) * j.size) (cap := cap * j.size) (e := T) (by rw [List.length_append,hxl,hyl,Nat.add_mul]) hcl
          (fun i z hz => by
           have hk : ∀ {v : Value} {z : FV},RepF G w v z → RepF G { w with drawn := w.drawn + 1 } v z := fun h => h.keep (fun _ _ h => h) (fun _ _ _ _ h => h) (fun _ _ _ _ h => h) (fun _ _ h => h) (fun _ _ h => h)
           by_cases hi : i < xs.length
           ·rw [List.getElem?_append_left hi] at hz
            obtain ⟨u,h2,h3⟩ := or' i z hz
            exact ⟨u,by rw [List.append_assoc,List.getElem?_append_left (by omega)]; exact h2,hk h3⟩
           ·rw [List.getElem?_append_right (by omega)] at hz
            obtain ⟨u,h2,h3⟩ := nr _ z hz
            have hul := (List.getElem?_eq_some_iff.1 h2).1
            refine ⟨u,?_,hk h3⟩
            rw [List.getElem?_append_left (by rw [List.length_append]; omega),List.getElem?_append_right (by omega),← h2]
            congr 1
            omega)
         have hW : w.drew.alloc (.cells (olds.toArray ++ news.toArray ++ rest) T) = ({ w with drawn := w.drawn + 1 } : World).alloc (.cells (olds ++ news ++ rest.toList).toArray T) := by
          have : olds.toArray ++ news.toArray ++ rest = (olds ++ news ++ rest.toList).toArray := by apply Array.toList_inj.1; simp
          rw [this]
          rfl
         rw [hW] at hrun
         refine wp_value (v := .slice (some ⟨w.heap.size,0,none⟩) (n + ys.length) cap) (w' := ({ w with drawn := w.drawn + 1 } : World).alloc (.cells (olds ++ news ++ rest.toList).toArray T)) ?_ (hn _ _ _ hK ⟨G',?_⟩)
         ·simp [execOp,ho,resolve,invoke,builtin,hevx,hevy] at hrun ⊢
          rw [hrun]
          rfl
         ·rw [hd]
          exact g1.put (some d) (v := .slice (some ⟨w.heap.size,0,none⟩) (n + ys.length) cap) (x := .osl k T j.size) (.osl k T j.size (n + ys.length) cap w.heap.size g2 g3 hcap p4)
      ·exact h.elim
     ·split at h
      ·rename_i hb0
       obtain ⟨hly,hb,hK⟩ := h
       rw [withNm_eq] at hK
       generalize hev : a.eval x = v at hx
       cases hx with
       | full _ ad hr =>
       exact fin (k := S.off + d) hev hr (by simp) (.inl ⟨rfl,rfl⟩) hly (by simpa using hb) (Nat.ne_of_beq_eq_false hb0) (by simpa using hK)
      ·exact h.elim
     ·split at h
      ·rename_i hb0
       obtain ⟨hne,hlx,hly,hb,hK⟩ := h
       rw [withNm_eq] at hK
       obtain ⟨zs,rfl,hK⟩ := hK
       generalize hev : a.eval x = v at hx
       cases hx with
       | full _ ad hr =>
       exact fin (k := S.off + d) hev hr hlx (.inr (.inl ⟨hne,rfl⟩)) hly hb (Nat.ne_of_beq_eq_false hb0) hK
      ·exact h.elim
     ·exact h.elim
 ·exact h.elim
theorem getObj_fz {d o : Nat} {ys : List AV} {cells : List FV} : ∀ {l : List (Nat × List FV)},Qv.getObj (fzObjs d ys l) o = some cells → o ≠ d ∧ ∃ cs,Qv.getObj l o = some cs ∧ cells = FV.fzL d ys cs := by
 intro l
 induction l with
 | nil => intro h; cases h
 | cons p l ih =>
   obtain ⟨u,i⟩ := p
   intro h
   simp only [fzObjs] at h
   split at h
   ·rename_i hb
    obtain rfl := Nat.eq_of_beq_eq_true hb
    obtain ⟨h1,cs,h2,h3⟩ := ih h
    refine ⟨h1,cs,?_,h3⟩
    simp only [Qv.getObj]
    have : Nat.beq u o = false := by
     cases hb : Nat.beq u o
     ·rfl
     ·exact absurd (Nat.eq_of_beq_eq_true hb).symm h1
    rw [this]; exact h2
   ·rename_i hb
    simp only [Qv.getObj] at h ⊢
    split at h
    ·rename_i hb2
     obtain rfl := Nat.eq_of_beq_eq_true hb2
     obtain rfl := Option.some.inj h
     exact ⟨Nat.ne_of_beq_eq_false hb,i,rfl,rfl⟩
    ·rename_i hb2
     exact ih h
theorem allOneA_all {ys : List AV} (h : allOneA ys = true) : ∀ y,y ∈ ys → y.one = true := by
 induction ys with
 | nil => simp
 | cons x xs ih =>
   simp only [allOneA] at h
   split at h
   ·rename_i h1
    intro y hy
    rcases List.mem_cons.1 hy with rfl | hy
    ·exact h1
    ·exact ih h y hy
   ·cases h
theorem Moves.frz {G G' : Ghost} {S : ASt} {w : World} {d : Nat} {ys : List AV} (hi : ∀ b i es k,w.heap[b]? = some (.map es k) → (∃ o,G'.mp o = some b) → G'.imm b i → G.imm b i) (hi' : ∀ b,G.imm b 0 → G'.imm b 0) (hmp : G'.mp = G.mp) (hit : G'.it = G.it) (hl : ∀ o b,G'.loc o = some b → G.loc o = some b) :
 Moves (FV.fz d ys) G G' S (S.frz d ys) w := by
 refine ⟨fun _ => rfl,fun o l' h => ?_,fun q x h => ⟨h,fun r hr => hit ▸ hr⟩,fun _ _ h => hmp ▸ h,fun _ _ h => hit ▸ h,hi,hi',fun o b h => .inl (hl o b h)⟩
 obtain ⟨l,h1,h2⟩ := getM_mapMs h
 exact ⟨l,h1,h2,fun b hb => hmp ▸ hb⟩
theorem SimG.frzUp (hs : SimG E G S a w) {d : Nat} {cells : List FV} {ys : List AV} (hdn : d ≠ 999999) (hc : Qv.getObj S.objs d = some cells) (hy : FV.toAVs cells = some ys) (h1 : allOneA ys = true) :
 ∃ G',SimG E G' (S.frz d ys) a w ∧ ∀ v x,RepF G w v x → RepF G' w v (x.fz d ys) := by
 obtain ⟨B,hB,hcell⟩ := hs.objs d cells hc
 obtain ⟨hl1,hl2,hl3⟩ := hs.locs d B hB
 obtain ⟨hlen,hget⟩ := FV.toAVs_get hy
 let G' : Ghost := { G with imm := fun b o => G.imm b o ∨ (b = B ∧ o < ys.length),loc := fun o => if o = d then none else G.loc o }
 have hone := allOneA_all h1
 have floc : ∀ o b,G'.loc o = some b → o ≠ d ∧ G.loc o = some b := fun o b h => by
  simp only [G'] at h
  split at h
  ·cases h
  ·rename_i hne; exact ⟨hne,h⟩
 have up : ∀ v x,RepF G w v x → RepF G' w v (x.fz d ys) := fun v x hv => by
  refine hv.fz (B := B) (fun b o h => .inl h) (fun b h => by rw [hB] at h; exact (Option.some.inj h).symm) (fun j y hj => ?_) (fun o b hne h => by simp only [G']; rw [if_neg hne]; exact h) (fun _ _ h => h)
  obtain ⟨x,hx,hxy⟩ := hget j y hj
  obtain ⟨c,h2,h3⟩ := hcell j x hx
  exact ⟨hone y (List.mem_of_getElem? hj),.inr ⟨rfl,(List.getElem?_eq_some_iff.1 hj).1⟩,c,h2,(h3.toAV hxy).keep (fun b o h => .inl h) (fun _ _ _ _ h => h) (.refl _ _)⟩
 have hmapB : ∀ b i es n,b = B → i < ys.length → w.heap[b]? = some (.map es n) → False := fun b i es n e hi hb => by
  subst e
  obtain ⟨x,hx,-⟩ := hget i _ (List.getElem?_eq_getElem hi)
  obtain ⟨c,h2,-⟩ := hcell i x hx
  rw [cell_not_map hb] at h2
  cases h2
 refine ⟨G',⟨hs.kept,hs.size,hs.ext'.move (S' := S.frz d ys) (FV.fz d ys) rfl rfl rfl up (.refl _) (.frz (fun b i es n hb _ h => h.elim id fun h => (hmapB b i es n h.1 h.2 hb).elim) (fun _ h => .inl h) rfl rfl (fun o b h => (floc o b h).2)),?_,?_,?_,fun i hi => up _ _ (hs.tmps i hi),fun o cs ho => ?_,fun o b ho => ?_,fun o o' b h h' => hs.locInj o o' b (floc _ _ h).2 (floc _ _ h').2,fun o t b r h h' => TailOK.mono (hs.locTail o t b r (floc _ _ h).2 h') (fun bs q => ⟨bs,q⟩) (fun cs q => ?_),fun t b s e T h => ?_,hs.tailInj⟩,up⟩
 ·refine hs.bld.keep rfl rfl (fun o bs q => ?_) (fun o _ _ q => ?_) (fun _ _ e => e) (Nat.le_refl _) (fun _ _ _ _ _ _ => rfl) (fun _ _ _ => rfl) (fun o r i e hi => ?_) (fun _ _ o' _ e => (floc o' _ e).2) (fun _ _ t q _ e => ⟨t,q,e⟩)
  ·refine ⟨q,?_,rfl⟩
   have hne : o ≠ d := fun e => by
    have := (hs.bld.at_ o bs q).1
    rw [e,hc] at this
    cases this
   simp only [G']
   rw [if_neg hne]
  ·cases h' : Qv.getObj (fzObjs d ys S.objs) o with
   | none => exact h'
   | some cs =>
     obtain ⟨-,cs',h2,-⟩ := getObj_fz h'
     rw [q] at h2
     cases h2
  ·rcases hi with hi | ⟨rfl,-⟩
   ·exact hi
   ·exact absurd hB ((hs.bld.row o _ e).2.2.2.1 d)
 ·rintro b o (h | ⟨rfl,-⟩)
  ·exact hs.immB b o h
  ·exact .inr (E.mine_new hl2 hdn)
 ·rintro b o (h | ⟨rfl,-⟩)
  ·exact hs.immLt b o h
  ·exact hl1
 ·obtain ⟨hne,cs0,h2,rfl⟩ := getObj_fz ho
  obtain ⟨b,h3,h4⟩ := hs.objs o cs0 h2
  refine ⟨b,by simp only [G']; rw [if_neg hne]; exact h3,fun i x hx => ?_⟩
  rw [FV.fzL_eq,List.getElem?_map] at hx
  cases hq : cs0[i]? with
  | none => simp [hq] at hx
  | some y =>
    simp [hq] at hx
    subst hx
    obtain ⟨c,h5,h6⟩ := h4 i y hq
    exact ⟨c,h5,up _ _ h6⟩
 ·obtain ⟨hne,ho'⟩ := floc o b ho
  obtain ⟨k1,k2,k3⟩ := hs.locs o b ho'
  refine ⟨k1,k2,fun i => ⟨?_,(k3 i).2⟩⟩
  rintro (h | ⟨e,-⟩)
  ·exact (k3 i).1 h
  ·exact hne (hs.locInj o d b ho' (by rw [e]; exact hB))
 ·obtain ⟨-,cs0,h2,rfl⟩ := getObj_fz q
  exact ⟨cs0,h2,by rw [FV.fzL_eq,List.length_map]⟩
 ·obtain ⟨k1,k2,kt,k3⟩ := hs.tails t b s e T h
  refine ⟨k1,k2,kt,fun i hi hi' => ?_⟩
  obtain ⟨k4,k5,k6⟩ := k3 i hi hi'
  refine ⟨k4,k5,?_⟩
  rintro (h7 | ⟨rfl,hlt⟩)
  ·exact k6 h7
  ·have := (hs.locTail d t b _ hB h).2.2 cells hc
   simp only at this
   omega
theorem SimG.frz (hs : SimG E G S a w) {d : Nat} {cells : List FV} {ys : List AV} (hdn : d ≠ 999999) (hc : Qv.getObj S.objs d = some cells) (hy : FV.toAVs cells = some ys) (h1 : allOneA ys = true) :
 ∃ G',SimG E G' (S.frz d ys) a w :=
 let ⟨G',h,_⟩ := hs.frzUp hdn hc hy h1
 ⟨G',h⟩
theorem evFrz_sound : ∀ (ds : List Nat) {K : ASt → Prop} {S : ASt},evFrz ds K S → Sim E S a w → ∃ S',K S' ∧ Sim E S' a w
 | [],_,S,h,hs => ⟨S,h,hs⟩
 | d :: ds,K,S,h,⟨G,hs⟩ => by
   simp only [evFrz] at h
   split at h
   ·exact h.elim
   ·rename_i cells hc
    split at h
    ·exact h.elim
    ·rename_i ys hy
     split at h
     ·rename_i h1
      exact evFrz_sound ds h (hs.frz (getO_some hc).1 (getO_some hc).2 hy h1)
     ·exact h.elim
def marksOf : List Deferred → List Nat
 | [] => []
 | d :: ds => match d.target with
   | .collected r => r :: marksOf ds
   | _ => marksOf ds
theorem marksOf_map (ms : List Nat) : marksOf (ms.map mark) = ms := by
 induction ms with
 | nil => rfl
 | cons m ms ih => simp [marksOf,ih]
def Env.push (E : Env) (a : Act) : Env := { E with rnd := none,susp := a.tmps :: E.susp,fixed := marksOf a.defers ++ E.fixed }
def YldSound (E : Env) (Y : Yld) : Prop :=
 ∀ (rnd : Option Nat) (xs : List (Array Value)) (ls : List (Nat × Loop)) (fixed : List Nat) (G : Ghost) (S : ASt) (a : Act) (w : World) (l k : Nat) (args : List FV) (K : FV → ASt → Prop) (vals : List Value),
   SimG { E with rnd := rnd,susp := xs ++ E.susp,loops := E.loops ++ ls,fixed := fixed } G S a w → G.yl l = some k → Y l args K S →
   vals.length = args.length → (∀ (i : Nat) (v : Value) (x : FV),vals[i]? = some v → args[i]? = some x → RepF G w v x) →
   YieldAt Fence.wide 0 E.C.P k vals.toArray w fun e w' => ∃ v x G' S',e = .returned v ∧ K x S' ∧
    SimG { E with rnd := rnd,susp := xs ++ E.susp,loops := E.loops ++ ls,fixed := fixed } G' S' a w' ∧ RepF G' w' v x
theorem YldSound.later {Y : Yld} (h : YldSound E Y) (rnd : Option Nat) (xs : List (Array Value)) (ls : List (Nat × Loop)) (fixed : List Nat) :
 YldSound { E with rnd := rnd,susp := xs ++ E.susp,loops := E.loops ++ ls,fixed := fixed } Y := by
 intro rnd' xs' ls' fixed' G S a w l k args K vals hs
 simp only [← List.append_assoc] at hs ⊢
 rw [List.append_assoc E.loops ls ls'] at hs ⊢
 exact h rnd' (xs' ++ xs) (ls ++ ls') fixed' G S a w l k args K vals hs
theorem YldSound.push {Y : Yld} (h : YldSound E Y) (a : Act) : YldSound (E.push a) Y := by
 have := h.later none [a.tmps] [] (marksOf a.defers ++ E.fixed)
 simp only [List.append_nil] at this
 exact this
def CallOK (C : Ctx) (call : CallH) : Prop :=
 ∀ (E : Env),E.C = C → ∀ (Y : Yld) (g : FuncId) (args : List FV) (K : FV → ASt → Prop) (G : Ghost) (S : ASt) (a : Act) (w : World) (vals : List Value),
   SimG E G S a w → YldSound (E.push a) Y → call Y g args K S →
   vals.length = args.length → (∀ (i : Nat) (v : Value) (x : FV),vals[i]? = some v → args[i]? = some x → RepF G w v x) →
   (∃ fn, C.P.funcs[g]? = some fn ∧ fn.body.isNone = false ∧ (fn.name == "runtime.NumGoroutine") = false) ∧
   CallsIn Fence.wide 0 C.P g vals.toArray w fun e w' => ∃ v x G' S',e = .returned v ∧ K x S' ∧ SimG E G' S' a w' ∧ RepF G' w' v x
theorem fence_eq {P : Program} {f : FuncId} {args : Array Value} {w : World} {R : Ending → World → Prop} (h : CallsIn Fence.wide 0 P f args w R) : CallsIn E.fence 0 P f args w R := by
 unfold Env.fence
 split
 ·exact h
 ·exact CallsIn.inRound _ h
theorem fence_round {P : Program} {l : Nat} {f : FuncId} {tmps : Array Value} {assign body : Code} {w : World} {R : Ending → World → Prop} (h : RoundIn Fence.wide 0 P l f tmps assign body w R) :
 RoundIn E.fence 0 P l f tmps assign body w R := by
 unfold Env.fence
 split
 ·exact h
 ·exact h
theorem mapP_rep {imm : Nat → Nat → Prop} {cs : List Value} {xs : List AV} (h : cs.length = xs.length ∧ ∀ (i : Nat) (c : Value) (x : AV),cs[i]? = some c → xs[i]? = some x → Rep imm w c x) (hi : imm = G.imm) :
 cs.length = (mapP xs).length ∧ ∀ (i : Nat) (c : Value) (x : FV),cs[i]? = some c → (mapP xs)[i]? = some x → RepF G w c x := by
 rw [mapP_eq]
 refine ⟨by simp [h.1],fun i c x hc hx => ?_⟩
 rw [List.getElem?_map] at hx
 cases hq : xs[i]? with
 | none => simp [hq] at hx
 | some y => simp [hq] at hx; subst hx; exact .p _ _ (hi ▸ h.2 i c y hc hq)
theorem wp_bld (hs : SimG E G S a w) {f : Operand} {args : Array Operand} {types : Array TypeId} {g : FuncId} {first captured : Array Value} {ob : Nat} {bs : List UInt8} {rest : List FV} {K : ASt → Prop}
 (ho : o.op = .call ⟨.value f,args,types⟩) (hf : a.eval f = .func (.func g) first captured)
 (hr : (first ++ args.map a.eval ++ captured).toList.length = (FV.ptr ob 0 :: rest).length ∧ ∀ (i : Nat) (c : Value) (x : FV),(first ++ args.map a.eval ++ captured).toList[i]? = some c → (FV.ptr ob 0 :: rest)[i]? = some x → RepF G w c x)
 (hob : getB S.blds ob = some bs) (h : evBld E.C S o.dst g ob bs rest K) {next : Act → World → Prop} {Q : Exit → Act → World → Prop}
 (hn : ∀ S' a' w',K S' → Sim E S' a' w' → next a' w') : Owp E o a w next Q := by
 unfold evBld at h
 split at h
 ·exact h.elim
 ·rename_i xs hxs
  obtain ⟨hflat,out,r,⟨⟨fn,h1,h2,h3⟩,hc⟩,hk⟩ := h
  generalize hvs : (first ++ args.map a.eval ++ captured) = vs at hr
  obtain ⟨vs⟩ := vs
  match vs,hr with
  | [],hr => simp at hr
  | v0 :: vs,hr =>
  obtain ⟨b,rfl,hl⟩ := (hr.2 0 v0 _ rfl rfl).ptr_inv
  obtain ⟨-,b0,hl0,hat⟩ := hs.bld.at_ ob bs hob
  rw [hl] at hl0
  obtain rfl := Option.some.inj hl0
  have hrest := toAVs_rep (G := G) (w := w) (cs := vs) (xs := rest) ⟨by simpa using hr.1,fun i c x q1 q2 => hr.2 (i + 1) c x (by simpa using q1) (by simpa using q2)⟩ hxs
  have := hc w b (G.row ob) vs hs.J.1.1 hat hrest.1 (fun i v x q1 q2 => (hrest.2 i v x q1 q2).flat (flatL_mem hflat x (List.mem_of_getElem? q2)))
  refine ⟨fun f _ => Env.fence_fn f,?_⟩
  have hvs' : first ++ args.map a.eval ++ captured = (.pointer (some ⟨b,0,none⟩) :: vs).toArray := by rw [hvs]
  rw [Oper.semAt_eq _ _ _ (fun c => by rw [ho]; simp),run_call ho hf h1 h2 h3,Oper.uponIn_enter,hvs']
  refine ⟨fun h => (by rw [Env.fence_depth] at h; cases h),callsIn_fence (Calls.mono this ?_)⟩
  rintro e w' ⟨v,rfl,hv,hout,f1,f2,f3,f4,f5⟩
  have hv' : ∀ {G' : Ghost},RepF G' w' v (.p r) := fun {G'} => .p _ _ (hv.keep (fun _ _ h => h.elim) (fun _ _ _ h => h.elim) (fun _ _ _ h => h.elim))
  cases out with
  | some bs' =>
    obtain ⟨row',hat',hrow⟩ := hout
    have hlt : ∀ x,row' = some x → x < w'.heap.size := fun x hx => by
     obtain ⟨p,u,-,-,h6⟩ := hat'
     rw [hx] at h6
     obtain ⟨-,cap,cur,-,h7,-⟩ := h6
     exact (Array.getElem?_eq_some_iff.1 h7).1
    obtain ⟨hg,-⟩ := hs.bldStep (blds' := setB S.blds ob bs') (row' := row') hob hl (by obtain ⟨p,u,-,h6,-⟩ := hat'; exact ⟨_,_,h6⟩) (hrow.imp id fun ⟨x,q1,q2⟩ => .inr ⟨x,q1,q2,hlt x q1⟩) (fun x hx => by
     obtain ⟨p,u,-,-,h6⟩ := hat'
     rw [hx] at h6
     obtain ⟨-,cap,cur,-,h7,-⟩ := h6
     exact ⟨_,_,_,h7⟩) f1 f2 f3 f4 f5
     (fun q bs2 hq => (getB_set hq).imp (fun ⟨q1,q2⟩ => ⟨q1,q2 ▸ hat'⟩) id)
    exact hn _ _ _ hk ⟨_,hg.put o.dst hv'⟩
  | none =>
    obtain ⟨hg,-⟩ := hs.bldStep (blds' := delB ob S.blds) (row' := none) hob hl hout (.inr (.inl rfl)) (fun x hx => by cases hx) f1 f2 f3 f4 f5 (fun q bs2 hq => .inr (getB_del hq))
    exact hn _ _ _ hk ⟨_,hg.put o.dst hv'⟩
theorem SimG.lend (hs : SimG E G S a w) {ob b : Nat} {cells : List FV} {zs : List AV} {w' : World} (hob : Qv.getObj S.objs ob = some cells) (hloc : G.loc ob = some b) (hne : cells ≠ [])
 (hlen : zs.length = cells.length) (hc : ∀ (i : Nat) (x : AV),zs[i]? = some x → ∃ c,w'.cell? ⟨b,i,none⟩ = some c ∧ Rep (immOr G.imm w.heap.size) w' c x)
 (hos : w'.os = w.os) (htape : w'.tape = w.tape) (hout : w'.output = w.output) (hsz : w.heap.size ≤ w'.heap.size) (hblk : ∀ k,k < w.heap.size → k ≠ b → w'.heap[k]? = w.heap[k]?)
 (hsh : ∀ cs T fr,w.heap[b]? = some (.cells cs T fr) → ∃ cs',w'.heap[b]? = some (.cells cs' T fr) ∧ cs'.size = cs.size) :
 SimG E { G with imm := fun b o => G.imm b o ∨ (w.heap.size ≤ b ∧ b < w'.heap.size) } (S.setO ob (mapP zs)) a w' := by
 obtain ⟨l1,l2,l3⟩ := hs.locs ob b hloc
 obtain ⟨cs,T,fr,hb⟩ : ∃ cs T fr,w.heap[b]? = some (.cells cs T fr) := by
  obtain ⟨b',h1,h2⟩ := hs.objs ob cells hob
  rw [hloc] at h1
  obtain rfl := Option.some.inj h1
  match cells,hne with
  | x :: xs,_ =>
    obtain ⟨c,h3,-⟩ := h2 0 x rfl
    unfold World.cell? at h3
    split at h3
    ·rename_i h4; exact ⟨_,_,_,h4⟩
    ·cases h3
 obtain ⟨cs',hb',hcsz⟩ := hsh cs T fr hb
 have himm : ∀ k i,G.imm k i → k ≠ b := fun k i h e => (l3 i).1 (e ▸ h)
 have hcell : ∀ k i,k < w.heap.size → k ≠ b → w'.cell? ⟨k,i,none⟩ = w.cell? ⟨k,i,none⟩ := fun k i h1 h2 => by unfold World.cell?; simp only [hblk k h1 h2]
 have hfroz : ∀ k i,k < w.heap.size → w'.frozen? ⟨k,i,none⟩ = w.frozen? ⟨k,i,none⟩ := fun k i h1 => by
  by_cases h2 : k = b
  ·subst h2; simp [World.frozen?,hb,hb']
  ·unfold World.frozen?; simp only [hblk k h1 h2]
 have others : Others w w' := fun k o hk ho => by
  rw [hblk k (Array.getElem?_eq_some_iff.1 hk).1 (fun e => by subst e; rw [hb] at hk; obtain rfl := Option.some.inj hk; simp [Obj.isCells] at ho)]
  exact hk
 have keep : ∀ v x,RepF G w v x → RepF { G with imm := fun b o => G.imm b o ∨ (w.heap.size ≤ b ∧ b < w'.heap.size) } w' v x := fun v x hv =>
  hv.keep (fun b o hi => .inl hi) (fun k o c hi hc => by rw [hcell k o (hs.immLt k o hi) (himm k o hi)]; exact hc) (others.stands _) (fun _ _ e => e) (fun _ _ e => e)
 have hrowb : ∀ o r,G.row o = some r → r ≠ b := fun o r h e => (hs.bld.row o r h).2.2.2.1 ob (e ▸ hloc)
 refine ⟨⟨hos.trans hs.kept.os,htape.trans hs.kept.tape,hout.trans hs.kept.output,Nat.le_trans hs.kept.size hsz,fun k hk hk' => ?_,fun k c1 T1 f1 hk q => ?_⟩,hs.size,
  hs.ext'.keep rfl rfl rfl keep others (hmv := .more rfl rfl rfl rfl (fun b i hi => hi.imp id fun hi => hi.1) (fun b hi => .inl hi) fun _ _ h => .inl h),?_,?_,?_,fun i hi => keep _ _ (hs.tmps i hi),fun o cs2 ho => ?_,fun o b2 ho => ?_,hs.locInj,fun o t b2 r q1 q2 => ?_,fun t b2 s e T2 h => ?_,hs.tailInj⟩
 ·rw [hblk k (Nat.lt_of_lt_of_le hk hs.kept.size) (E.mine_ne l2 hk hk')]
  exact hs.kept.block k hk hk'
 ·obtain ⟨c2,q1,q2⟩ := hs.kept.shape k c1 T1 f1 hk q
  by_cases hkb : k = b
  ·subst hkb
   obtain ⟨c3,q3,q4⟩ := hsh c2 T1 f1 q1
   exact ⟨c3,q3,q4.trans q2⟩
  ·exact ⟨c2,by rw [hblk k (Array.getElem?_eq_some_iff.1 q1).1 hkb]; exact q1,q2⟩
 ·refine hs.bld.keep rfl rfl (fun o bs q => ⟨q,rfl,rfl⟩) (fun o bs _ q => ?_) (fun _ _ e => e) hsz (fun o bs b2 q q2 e => hblk b2 (hs.locs o b2 e).1 (fun e2 => ?_)) (fun o r e => hblk r (hs.bld.row o r e).2.1 (hrowb o r e))
   (fun o r i e hi => hi.elim id fun hi => absurd (hs.bld.row o r e).2.1 (by omega)) (fun _ _ _ _ e => e) (fun _ _ t q _ e => ⟨t,q,e⟩)
  ·cases h' : Qv.getObj (S.setO ob (mapP zs)).objs o with
   | none => rfl
   | some cs =>
     rcases getObj_set h' with ⟨rfl,-⟩ | ⟨-,h2⟩
     ·rw [hob] at q; cases q
     ·rw [q] at h2; cases h2
  ·have := hs.locInj o ob b2 e (e2 ▸ hloc)
   subst this
   rw [hob] at q2; cases q2
 ·rintro k o (hi | ⟨hi,_⟩)
  ·exact hs.immB k o hi
  ·exact .inr (Nat.le_trans hs.kept.size hi)
 ·rintro k o (hi | ⟨_,hi⟩)
  ·exact Nat.lt_of_lt_of_le (hs.immLt k o hi) hsz
  ·exact hi
 ·rcases getObj_set ho with ⟨rfl,rfl⟩ | ⟨hne,ho⟩
  ·refine ⟨b,hloc,fun i y hy => ?_⟩
   rw [mapP_eq,List.getElem?_map] at hy
   cases hq : zs[i]? with
   | none => simp [hq] at hy
   | some z =>
     simp only [hq,Option.map_some,Option.some.injEq] at hy
     subst hy
     obtain ⟨c,h1,h2⟩ := hc i z hq
     refine ⟨c,h1,.p _ _ (h2.keep2 (fun b o c hi hc => ⟨hi.imp id fun h => ⟨h,World.block_lt_of_cell? w' _ hc⟩,hc⟩) fun b es k hi hb => ⟨hi.imp id fun h => ⟨h,(Array.getElem?_eq_some_iff.1 hb).1⟩,hb⟩)⟩
  ·obtain ⟨b2,h2,h3⟩ := hs.objs o cs2 ho
   have hb2 : b2 ≠ b := fun e => hne (hs.locInj o ob b2 h2 (e ▸ hloc))
   exact ⟨b2,h2,fun i y hy => let ⟨c,h4,h5⟩ := h3 i y hy; ⟨c,by rw [hcell b2 i (hs.locs o b2 h2).1 hb2]; exact h4,keep _ _ h5⟩⟩
 ·obtain ⟨k1,k2,k3⟩ := hs.locs o b2 ho
  refine ⟨Nat.lt_of_lt_of_le k1 hsz,k2,fun i => ⟨?_,by rw [hfroz b2 i k1]; exact (k3 i).2⟩⟩
  rintro (hi | ⟨hi,_⟩)
  ·exact (k3 i).1 hi
  ·omega
 ·refine TailOK.mono (hs.locTail o t b2 r q1 q2) (fun bs q => ⟨bs,q⟩) fun cs q => ?_
  rcases getObj_set q with ⟨rfl,rfl⟩ | ⟨-,q⟩
  ·exact ⟨cells,hob,by rw [mapP_eq,List.length_map]; exact hlen⟩
  ·exact ⟨cs,q,rfl⟩
 ·obtain ⟨k1,k2,⟨c1,f1,kt⟩,k3⟩ := hs.tails t b2 s e T2 h
  by_cases hb2 : b2 = b
  ·subst hb2
   rw [hb] at kt
   injection Option.some.inj kt with e1 e2 e3
   subst e1; subst e2; subst e3
   refine ⟨Nat.lt_of_lt_of_le k1 hsz,k2,⟨_,_,hb'⟩,fun i hi hi' => ?_⟩
   obtain ⟨⟨c,k4⟩,k5,k6⟩ := k3 i hi hi'
   refine ⟨?_,by rw [hfroz b2 i k1]; exact k5,?_⟩
   ·have hlt : i < cs.size := by
     simp only [World.cell?,hb] at k4
     exact (Array.getElem?_eq_some_iff.1 (by simpa using k4)).1
    exact ⟨cs'[i]'(by omega),by simp [World.cell?,hb',hcsz ▸ hlt]⟩
   ·rintro (hi | ⟨hi,_⟩)
    ·exact k6 hi
    ·omega
  ·refine ⟨Nat.lt_of_lt_of_le k1 hsz,k2,⟨c1,f1,by rw [hblk b2 k1 hb2]; exact kt⟩,fun i hi hi' => ?_⟩
   obtain ⟨⟨c,k4⟩,k5,k6⟩ := k3 i hi hi'
   refine ⟨⟨c,by rw [hcell b2 i k1 hb2]; exact k4⟩,by rw [hfroz b2 i k1]; exact k5,?_⟩
   rintro (hi | ⟨hi,_⟩)
   ·exact k6 hi
   ·omega
theorem wp_obj (hs : SimG E G S a w) {f : Operand} {args : Array Operand} {types : Array TypeId} {g : FuncId} {first captured : Array Value} {xs : List FV} {K : ASt → Prop}
 (ho : o.op = .call ⟨.value f,args,types⟩) (hf0 : a.eval f = .func (.func g) first captured)
 (hr : (first ++ args.map a.eval ++ captured).toList.length = xs.length ∧ ∀ (i : Nat) (c : Value) (x : FV),(first ++ args.map a.eval ++ captured).toList[i]? = some c → xs[i]? = some x → RepF G w c x)
 (h : evObj E.C S o.dst g xs K) {next : Act → World → Prop} {Q : Exit → Act → World → Prop}
 (hn : ∀ S' a' w',K S' → Sim E S' a' w' → next a' w') : Owp E o a w next Q := by
 unfold evObj at h
 split at h
 ·rename_i ob rest
  split at h
  ·rename_i cells as hob has
   split at h
   ·rename_i z zs hcells
    obtain ⟨R,⟨⟨fn,h1,h2,h3⟩,hc⟩,hk⟩ := h
    obtain ⟨b,hloc,hcs⟩ := hs.objs ob cells hob
    obtain ⟨l1,l2,l3⟩ := hs.locs ob b hloc
    obtain ⟨g1,g2⟩ := FV.toAVs_get hcells
    generalize hvs : (first ++ args.map a.eval ++ captured) = vs0 at hr
    obtain ⟨vs⟩ := vs0
    match vs,hr with
    | [],hr => simp at hr
    | v :: vs,hr =>
    have hv := hr.2 0 v _ rfl rfl
    obtain ⟨b',rfl,hb'⟩ := hv.ptr_inv
    rw [hloc] at hb'
    obtain rfl := Option.some.inj hb'
    have hvs' := toAVs_rep (cs := vs) (xs := rest) (ys := as) ⟨by simpa using hr.1,fun i c x q1 q2 => hr.2 (i + 1) c x (by simpa using q1) (by simpa using q2)⟩ has
    have hJ := hs.J
    have hng : E.C.nglob ≤ b := by
     rcases l2 with l2 | l2
     ·have := E.hn; omega
     ·exact (E.hown b l2.2).1
    have := hc G.imm w b vs hJ.1 hJ.2 hs.immLt hng l1 l3 (fun i x hx => by
     obtain ⟨y,hy,hxy⟩ := g2 i x hx
     obtain ⟨c,q1,q2⟩ := hcs i y hy
     exact ⟨c,q1,q2.toAV hxy⟩) hvs'.1 hvs'.2
    refine ⟨fun f _ => Env.fence_fn f,?_⟩
    rw [Oper.semAt_eq _ _ _ (fun c => by rw [ho]; simp),run_call ho hf0 h1 h2 h3,Oper.uponIn_enter,hvs]
    refine ⟨fun h => (by rw [Env.fence_depth] at h; cases h),callsIn_fence (Calls.mono this ?_)⟩
    rintro e w' ⟨u,r,cells',rfl,hR,hl,hrep,hc',q1,q2,q3,q4,q5,q6⟩
    have hne : cells ≠ [] := fun e => by subst e; simp at g1
    have hs' := hs.lend hob hloc hne (zs := cells') (hl.trans g1) hc' q1 q2 q3 q4 q5 q6
    refine hn _ _ _ (hk r cells' hR) ⟨_,hs'.put o.dst (.p _ _ (hrep.keep2 (fun b o c hi hc => ⟨hi.imp id fun h => ⟨h,World.block_lt_of_cell? w' _ hc⟩,hc⟩) fun b es k hi hb => ⟨hi.imp id fun h => ⟨h,(Array.getElem?_eq_some_iff.1 hb).1⟩,hb⟩))⟩
   ·exact h.elim
  ·exact h.elim
 ·rcases h with h | h
  ·obtain ⟨d,ks,vs,hf,h⟩ := h
   split at h
   ·rename_i ys hys
    obtain ⟨R,hc,hk⟩ := h
    obtain ⟨G',hs',up⟩ := hs.frzMup hf
    refine wp_call hs' ho hf0 (toAVs_rep (xs := FV.fmL d (.mp ks vs) xs) ⟨by rw [FV.fmL_eq,List.length_map]; exact hr.1,fun i c x q1 q2 => ?_⟩ hys) hc fun r v w' hR hb hok => ?_
    ·rw [FV.fmL_eq,List.getElem?_map] at q2
     cases hq : xs[i]? with
     | none => simp [hq] at q2
     | some y =>
       simp [hq] at q2
       subst q2
       exact up _ _ (hr.2 i c y q1 hq)
    ·have hk' := hk r hR
     rw [gotK_eq] at hk'
     exact hn _ _ _ hk' (got_sound hs' hb hok)
   ·exact h.elim
  ·obtain ⟨d,ys,h⟩ := h
   split at h
   ·exact h.elim
   ·rename_i cells hcell
    obtain ⟨hy,h1,h⟩ := h
    split at h
    ·rename_i zs hzs
     obtain ⟨R,hc,hk⟩ := h
     obtain ⟨G',hs',up⟩ := hs.frzUp (getO_some hcell).1 (getO_some hcell).2 hy h1
     refine wp_call hs' ho hf0 (toAVs_rep (xs := FV.fzL d ys xs) ⟨by rw [FV.fzL_eq,List.length_map]; exact hr.1,fun i c x q1 q2 => ?_⟩ hzs) hc fun r v w' hR hb hok => ?_
     ·rw [FV.fzL_eq,List.getElem?_map] at q2
      cases hq : xs[i]? with
      | none => simp [hq] at q2
      | some y =>
        simp [hq] at q2
        subst q2
        exact up _ _ (hr.2 i c y q1 hq)
     ·have hk' := hk r hR
      rw [gotK_eq] at hk'
      exact hn _ _ _ hk' (got_sound hs' hb hok)
    ·exact h.elim
theorem onlyL_mem : ∀ {xs : List FV},FV.onlyL xs = true → ∀ x,x ∈ xs → x.only = true := by
 intro xs
 induction xs with
 | nil => intro _ x hx; cases hx
 | cons y ys ih =>
   intro h x hx
   simp only [FV.onlyL] at h
   split at h
   ·rename_i hy
    rcases List.mem_cons.1 hx with rfl | hx
    ·exact hy
    ·exact ih h x hx
   ·cases h
theorem RepF.lent {G : Ghost} {w : World} {v : Value} {x : FV} {b : Nat} (h : RepF G w v x) (hb : G.loc 999999 = some b) : x.only = true → RepF (lent G.imm b) w v x := by
 induction h with
 | p v x h => intro _; exact .p v x h
 | agg cs xs hn _ ih => intro hs; simp only [FV.only] at hs; exact .agg cs xs hn fun i c x h1 h2 => ih i c x h1 h2 (onlyL_mem hs x (List.mem_of_getElem? h2))
 | tup cs xs hn _ ih => intro hs; simp only [FV.only] at hs; exact .tup cs xs hn fun i c x h1 h2 => ih i c x h1 h2 (onlyL_mem hs x (List.mem_of_getElem? h2))
 | ptr o off b' h =>
   intro hs
   simp only [FV.only] at hs
   obtain rfl := Nat.eq_of_beq_eq_true hs
   rw [hb] at h
   obtain rfl := Option.some.inj h
   exact .ptr _ _ _ (by simp [Qv.lent])
 | full xs a h => intro _; exact .full xs a h
 | fn f fs cs first captured hn hn' _ _ ih ih' =>
   intro hs
   simp only [FV.only] at hs
   split at hs
   ·rename_i h1
    exact .fn f fs cs first captured hn hn' (fun i c x h2 h3 => ih i c x h2 h3 (onlyL_mem h1 x (List.mem_of_getElem? h3))) (fun i c x h2 h3 => ih' i c x h2 h3 (onlyL_mem hs x (List.mem_of_getElem? h3)))
   ·cases hs
 | junk v => intro _; exact .junk v
 | _ => intro hs; simp [FV.only] at hs
def PanOK (E : Env) (Q : Exit → Act → World → Prop) : Prop := E.susp = [] → ∀ (v : Value) (S : ASt) (a : Act) (w : World) (ys : List AV),E.C.pan v → Qv.getObj S.objs 999999 = some (mapP ys) → ys.length = E.C.plen → Sim E S a w → Q (.panic [{ v := v,recovered := false }]) a w
theorem getObj_set_self {ob : Nat} {cells cs : List FV} : ∀ {l : List (Nat × List FV)},Qv.getObj l ob = some cells → Qv.getObj (setObj l ob cs) ob = some cs := by
 intro l
 induction l with
 | nil => intro h; cases h
 | cons p l ih =>
   obtain ⟨u,i⟩ := p
   intro h
   simp only [getObj,setObj] at h ⊢
   split at h
   ·rename_i hb
    simp only [hb,getObj]
   ·rename_i hb
    simp only [hb,getObj]
    exact ih h
theorem wp_objP (hs : SimG E G S a w) {f : Operand} {args : Array Operand} {types : Array TypeId} {g : FuncId} {first captured : Array Value} {xs : List FV} {K : ASt → Prop}
 (ho : o.op = .call ⟨.value f,args,types⟩) (hf0 : a.eval f = .func (.func g) first captured)
 (hr : (first ++ args.map a.eval ++ captured).toList.length = xs.length ∧ ∀ (i : Nat) (c : Value) (x : FV),(first ++ args.map a.eval ++ captured).toList[i]? = some c → xs[i]? = some x → RepF G w c x)
 (h : evObjP E.C S o.dst g xs K) {next : Act → World → Prop} {Q : Exit → Act → World → Prop}
 (hn : ∀ S' a' w',K S' → Sim E S' a' w' → next a' w') (hP : PanOK E Q) : Owp E o a w next Q := by
 unfold evObjP at h
 split at h
 ·rename_i ob rest
  split at h
  ·rename_i cells hob
   split at h
   ·rename_i z zs hcells
    obtain ⟨hname,honly,hsusp,hlen,R,X,⟨⟨fn,h1,h2,h3⟩,hc⟩,hk,hx⟩ := h
    obtain rfl := Nat.eq_of_beq_eq_true hname
    obtain ⟨b,hloc,hcs⟩ := hs.objs _ cells hob
    obtain ⟨l1,l2,l3⟩ := hs.locs _ b hloc
    obtain ⟨g1,g2⟩ := FV.toAVs_get hcells
    generalize hvs : (first ++ args.map a.eval ++ captured) = vs0 at hr
    obtain ⟨vs⟩ := vs0
    match vs,hr with
    | [],hr => simp at hr
    | v :: vs,hr =>
    have hv := hr.2 0 v _ rfl rfl
    obtain ⟨b',rfl,hb'⟩ := hv.ptr_inv
    rw [hloc] at hb'
    obtain rfl := Option.some.inj hb'
    have hJ := hs.J
    have hng : E.C.nglob ≤ b := by
     rcases l2 with l2 | l2
     ·have := E.hn; omega
     ·exact (E.hown b l2.2).1
    have := hc G.imm w b vs hJ.1 hJ.2 hs.immLt hng l1 l3 (fun i x hx => by
     obtain ⟨y,hy,hxy⟩ := g2 i x hx
     obtain ⟨c,q1,q2⟩ := hcs i y hy
     exact ⟨c,q1,q2.toAV hxy⟩) (by simpa using hr.1) (fun i v x q1 q2 => (hr.2 (i + 1) v x (by simpa using q1) (by simpa using q2)).lent hloc (onlyL_mem honly x (List.mem_of_getElem? q2)))
    refine ⟨fun f _ => Env.fence_fn f,?_⟩
    rw [Oper.semAt_eq _ _ _ (fun c => by rw [ho]; simp),run_call ho hf0 h1 h2 h3,Oper.uponIn_enter,hvs]
    refine ⟨fun h => (by rw [Env.fence_depth] at h; cases h),callsIn_fence (Calls.mono this ?_)⟩
    rintro e w' ⟨cells',hl,hc',q1,q2,q3,q4,q5,q6,hend⟩
    have hne : cells ≠ [] := fun e => by subst e; simp at g1
    have hs' := hs.lend hob hloc hne (zs := cells') (hl.trans g1) hc' q1 q2 q3 q4 q5 q6
    rcases hend with ⟨u,r,rfl,hR,hrep⟩ | ⟨v,rfl,hX⟩
    ·refine hn _ _ _ (hk r cells' hR) ⟨_,hs'.put o.dst (.p _ _ (hrep.keep2 (fun b o c hi hc => ⟨hi.imp id fun h => ⟨h,World.block_lt_of_cell? w' _ hc⟩,hc⟩) fun b es k hi hb => ⟨hi.imp id fun h => ⟨h,(Array.getElem?_eq_some_iff.1 hb).1⟩,hb⟩))⟩
    ·have hE : E.susp = [] := by
      have := hs.ext'.suspLen
      rw [hsusp] at this
      exact List.length_eq_zero_iff.1 this.symm
     exact hP hE v _ _ _ cells' (hx v hX) (getObj_set_self hob) (hl.trans (Nat.eq_of_beq_eq_true hlen)) ⟨_,hs'⟩
   ·exact h.elim
  ·exact h.elim
 ·exact h.elim
theorem wp_inl (hs : SimG E G S a w) {call : CallH} {Y : Yld} (hcall : CallOK E.C call) (hY : YldSound E Y) {f : Operand} {args : Array Operand} {types : Array TypeId} {g : FuncId} {first captured : Array Value} {xs : List FV} {K : ASt → Prop}
 (ho : o.op = .call ⟨.value f,args,types⟩) (hf : a.eval f = .func (.func g) first captured)
 (hr : (first ++ args.map a.eval ++ captured).toList.length = xs.length ∧ ∀ (i : Nat) (c : Value) (x : FV),(first ++ args.map a.eval ++ captured).toList[i]? = some c → xs[i]? = some x → RepF G w c x)
 (h : evInl E.C call Y S o.dst g xs K) {next : Act → World → Prop} {Q : Exit → Act → World → Prop}
 (hn : ∀ S' a' w',K S' → Sim E S' a' w' → next a' w') : Owp E o a w next Q := by
 unfold evInl at h
 split at h
 ·rename_i ob bs rest hb
  unfold bldArg at hb
  split at hb
  ·split at hb
   ·rename_i hob
    have hb := Option.some.inj hb
    injection hb with e1 e2
    injection e2 with e2 e3
    subst e1; subst e2; subst e3
    exact wp_bld hs ho hf hr hob h hn
   ·cases hb
  ·cases hb
 rename_i hnb
 rcases h with h | ⟨hx,h⟩ | h
 ·obtain ⟨⟨fn,h1,h2,h3⟩,hc⟩ := hcall E rfl Y g xs _ G S a w _ hs (hY.push a) h hr.1 hr.2
  refine ⟨fun f _ => Env.fence_fn f,?_⟩
  rw [Oper.semAt_eq _ _ _ (fun c => by rw [ho]; simp),run_call ho hf h1 h2 h3,Oper.uponIn_enter]
  refine ⟨fun h => (by rw [Env.fence_depth] at h; cases h),fence_eq (CallsIn.mono hc ?_)⟩
  rintro e w' ⟨v,x,G',S',rfl,hK,hs',hv⟩
  exact hn _ _ _ hK ⟨G',hs'.put o.dst hv⟩
 ·clear hnb
  split at h
  ·rename_i x
   generalize hargs : (first ++ args.map a.eval ++ captured) = vs at hr
   obtain ⟨vs⟩ := vs
   match vs,hr with
   | [v],hr =>
     have hv := hr.2 0 v x rfl rfl
     refine wp_value (v := v) (w' := w) ?_ (hn _ _ _ h ⟨G,hs.put o.dst hv⟩)
     have := hx v w
     simp [execOp,ho,resolve,hf,Deferred.ofValue,invoke,hargs,this]
   | [],hr => simp at hr
   | _ :: _ :: _,hr => simp at hr
  ·exact h.elim
 ·exact wp_obj hs ho hf hr h hn
theorem wp_yield (hs : SimG E G S a w) {Y : Yld} (hY : YldSound E Y) {f : Operand} {args : Array Operand} {types : Array TypeId} {l : Nat} {K : ASt → Prop}
 (ho : o.op = .call ⟨.value f,args,types⟩) (hf : S.val f = .yld l)
 (h : Y l (args.toList.map S.val) (fun v S' => K (S'.put o.dst v)) S) {next : Act → World → Prop} {Q : Exit → Act → World → Prop}
 (hn : ∀ S' a' w',K S' → Sim E S' a' w' → next a' w') : Owp E o a w next Q := by
 have hfv := RepF.val hs f
 rw [hf] at hfv
 generalize hev : a.eval f = v at hfv
 cases hfv with
 | yld _ k hk =>
 have hv := vals_rep hs args.toList
 have hY' := hY E.rnd [] [] E.fixed G S a w l k
 simp only [List.nil_append,List.append_nil] at hY'
 have := hY' _ _ _ hs hk h hv.1 hv.2
 obtain ⟨fn,tmps,assign,body,h1,h2⟩ := this
 refine ⟨fun f _ => Env.fence_fn f,?_⟩
 have hrun : (execOp a.eval o).run E.C.P w = .ok (.round k fn tmps assign body) w := by
  have he : (args.toList.map a.eval).toArray = args.map a.eval := by
   apply Array.toList_inj.1
   rw [Array.toList_map]
  rw [he] at h1
  simp [execOp,ho,resolve,hev,Deferred.ofValue,invoke,h1]
 rw [Oper.semAt_eq _ _ _ (fun c => by rw [ho]; simp),hrun,Oper.uponIn_round]
 refine ⟨fun h => (by rw [Env.fence_depth] at h; cases h),fence_round (RoundIn.mono h2 ?_)⟩
 rintro e w' ⟨v,x,G',S',rfl,hK,hs',hv⟩
 exact hn _ _ _ hK ⟨G',hs'.put o.dst hv⟩
theorem wp_buildSlice (hs : SimG E G S a w) {t e : TypeId} {len : Nat} {parts : Array (Nat × Operand)} {d0 : Nat} {K : ASt → Prop} {sa sb : Nat} {sz : List Value} (ho : o.op = .buildSlice t len parts) (hd0 : o.dst = some d0)
 (ht : tabGet E.C.tab t = some ⟨sa,sb,.slice e,sz⟩)
 (h : evBuildSlice E.C S t len parts.toList fun v => match v with
  | .full xs => match tabGet E.C.tab e with
    | none => False
    | some j => withNm S d0 fun nm => K ((S.kill nm).put (some d0) (.tip nm e j.size xs))
  | _ => False) {next : Act → World → Prop} {Q : Exit → Act → World → Prop}
 (hn : ∀ S' a' w',K S' → Sim E S' a' w' → next a' w') : Owp E o a w next Q := by
 obtain ⟨xs,us,e',j,⟨_,_,_,ht'⟩,hj,hK,hrun,hlen,hr⟩ := buildSlice_core hs ho h
 rw [ht] at ht'
 have := Option.some.inj ht'
 injection this with _ _ q _
 injection q with q
 subst q
 simp only [hj,withNm_eq] at hK
 generalize hd : S.off + d0 = d at hK
 have hbel : Below w.heap.size w (w.alloc (.cells us e)) := (Below.refl _ _).alloc (Nat.le_refl _) _
 have hsz : (w.alloc (.cells us e)).heap.size = w.heap.size + 1 := World.size_alloc w _
 have hg := ((hs.extN hbel fun b o => o < xs.length * j.size).kill d).addTail (t := d) (B := w.heap.size) (s := xs.length * j.size) (e := xs.length * j.size) (T := e) (kill_none _ d) (by rw [hsz]; omega) hs.kept.size ⟨_,_,World.alloc_heap_new w _⟩
  (fun o h => by
   simp only [Ghost.free] at h
   split at h
   ·cases h
   ·have := (hs.locs o _ h).1; omega)
  (fun t' r h => by
   simp only [Ghost.free] at h
   split at h
   ·cases h
   ·have := (hs.tails t' _ r.1 r.2.1 r.2.2 h).1; omega)
  (fun o h => by
   simp only [Ghost.free] at h
   split at h
   ·cases h
   ·have := (hs.bld.row o _ h).2.1; omega)
  (fun i hi hi' => by omega)
 refine wp_value hrun ?_
 rw [hd0]
 exact hn _ _ _ hK ⟨_,hg.put (some d0) (x := .tip d e j.size xs) (.tip d e j.size xs (some ⟨w.heap.size,0,none⟩) xs.length hr (.inr ⟨w.heap.size,0,rfl,hlen,by simp⟩))⟩
theorem evOp_sound {call : CallH} {Y : Yld} (hcall : CallOK E.C call) (hY : YldSound E Y) (hs : SimG E G S a w) {K : ASt → Prop} (h : evOp E.C call Y o K S) {next : Act → World → Prop} {Q : Exit → Act → World → Prop} (hP : PanOK E Q)
 (hn : ∀ S' a' w',K S' → Sim E S' a' w' → next a' w') : Owp E o a w next Q := by
 have viaVal : evVal E.C S o.op (fun v => K (S.put o.dst v)) → Owp E o a w next Q := fun h =>
  evVal_sound hs h fun x v G' w' hk hs' hv => hn _ _ _ hk ⟨G',hs'.put o.dst hv⟩
 unfold evOp at h
 split at h
 ·-- makeFunc
  rename_i fn first captured hop
  obtain ⟨fr,h⟩ := h
  obtain ⟨S',h,G',hs'⟩ := evFrz_sound fr h ⟨G,hs⟩
  simp only [forceL_eq] at h
  exact wp_of_yields hs' (yields_makeFunc (K := fun x => K (S'.put o.dst x)) hs' hop h) fun x v G' w' hk hs' hv => hn _ _ _ hk ⟨G',hs'.put o.dst hv⟩
 ·-- buildSlice
  rename_i t len parts hop
  split at h
  ·rename_i d _ _ e _ hd ht
   split at h
   ·exact wp_openSlice hs hop hd ht h hn
   ·exact wp_buildSlice hs hop hd ht h hn
  ·exact h.elim
 ·-- alloc
  rename_i t hop
  split at h
  ·rename_i d i hd hi
   obtain ⟨z,hz,hzc⟩ := (E.C.ok hi).zeroV w
   have hns := fun hdn => newObj_sound hs d hdn i.zero (i.zero.map FV.ofVal1) t (repL_zero _)
   have hrun : (execOp a.eval o).run E.C.P w = .ok (.value (.pointer (some ⟨w.heap.size,0,none⟩))) (w.alloc (.cells i.zero.toArray t)) := by
    have : z.cells = i.zero.toArray := by rw [← hzc]
    simp [execOp,hop,Instr.alloc,hz,newVar,newRow,this]
   split at h
   ·rename_i hbt hz0
    obtain rfl := Nat.eq_of_beq_eq_true hbt
    rw [newBldK_eq] at h
    obtain ⟨hdn,h⟩ := h
    obtain ⟨G',hg,hgl,hgr⟩ := hns (Nat.ne_of_beq_eq_false hdn)
    refine wp_value hrun (hn _ _ _ h ⟨G',?_⟩)
    rw [hd]
    have hw : (w.alloc (.cells i.zero.toArray E.C.bT)).heap[w.heap.size]? = some (.cells #[.pointer none,.slice none 0 0] E.C.bT (0,0)) := by
     rw [World.alloc_heap_new,hz0]
    exact hg.toBld (rest := S.objs) rfl hgl hgr.1 hgr.2 hw
   ·rw [forceL_eq,newObjK_eq] at h
    obtain ⟨hdn,h⟩ := h
    obtain ⟨G',hg,hgl,hgr⟩ := hns (Nat.ne_of_beq_eq_false hdn)
    refine wp_value hrun (hn _ _ _ h ⟨G',hd ▸ hg⟩)
  ·exact h.elim
 ·-- box
  rename_i t x hop
  split at h
  ·rename_i d i hd hi
   split at h
   ·rename_i hl
    split at h
    ·rename_i h1
     rw [forceL_eq,newObjK_eq] at h
     obtain ⟨hdn,h⟩ := h
     have hx := RepF.val hs x
     obtain ⟨hcr,-⟩ := cells_rep hx h1
     obtain ⟨G',hg,-,-⟩ := newObj_sound hs d (Nat.ne_of_beq_eq_false hdn) (a.eval x).cells.toList (S.val x).cells t hcr
     refine wp_value (v := .pointer (some ⟨w.heap.size,0,none⟩)) (w' := w.alloc (.cells (a.eval x).cells.toList.toArray t)) ?_ (hn _ _ _ h ⟨G',hd ▸ hg⟩)
     simp [execOp,hop,Instr.box,newVar,newRow]
    ·exact h.elim
   ·exact h.elim
  ·exact h.elim
 ·-- store
  rename_i t ad x hop
  split at h
  ·rename_i i ob off hi hob
   split at h
   ·exact h.elim
   ·rename_i cells hcells
    split at h
    ·rename_i hl
     split at h
     ·rename_i h1
      split at h
      ·rename_i cs hcs
       rw [forceL_eq] at h
       have hx := RepF.val hs x
       have had := RepF.val hs ad
       rw [hob] at had
       obtain ⟨b,hv,hloc⟩ := had.ptr_inv
       obtain ⟨hg,hrun⟩ := store_sound hs hcells hloc hx h1 hcs
       obtain ⟨hcr,-⟩ := cells_rep hx h1
       have hsz : (a.eval x).cells.size = i.size := by
        rw [← Nat.eq_of_beq_eq_true hl,← hcr.1]; simp
       have hr : (execOp a.eval o).run E.C.P w = .ok .skip (w.setCells b off (a.eval x).cells.toList) := by
        simp [execOp,hop,hv,Instr.storeAt,Instr.sureAddr,storeVar,(E.C.ok hi).sizeOf,hsz,hrun]
       refine ⟨fun f _ => Env.fence_fn f,?_⟩
       rw [Oper.semAt_eq _ _ _ (fun c => by rw [hop]; simp),hr]
       exact hn _ _ _ h ⟨G,hg.put o.dst (v := undef) (rep_undef _ _)⟩
      ·exact h.elim
     ·exact h.elim
    ·exact h.elim
  ·rename_i i ob base off hi hob
   split at h
   ·exact h.elim
   ·rename_i cells hcells
    split at h
    ·rename_i hl
     split at h
     ·rename_i h1
      obtain ⟨A,ys,B,hmid,hA,h⟩ := h
      split at h
      ·rename_i zs hzs
       rw [forceL_eq] at h
       obtain ⟨cs,rfl,h⟩ := h
       have hx := RepF.val hs x
       have had := RepF.val hs ad
       rw [hob] at had
       obtain ⟨b,hv,hloc⟩ := had.eptr_inv.ptr_inv
       have hcs : setRange cells (base + off) (S.val x).cells = some (A ++ (zs ++ B)) := by rw [hmid]; exact setRange_mid hA hzs
       obtain ⟨hg,hrun⟩ := store_sound hs hcells hloc hx h1 hcs
       obtain ⟨hcr,-⟩ := cells_rep hx h1
       have hsz : (a.eval x).cells.size = i.size := by
        rw [← Nat.eq_of_beq_eq_true hl,← hcr.1]; simp
       have hr : (execOp a.eval o).run E.C.P w = .ok .skip (w.setCells b (base + off) (a.eval x).cells.toList) := by
        simp [execOp,hop,hv,Instr.storeAt,Instr.sureAddr,storeVar,(E.C.ok hi).sizeOf,hsz,hrun]
       refine ⟨fun f _ => Env.fence_fn f,?_⟩
       rw [Oper.semAt_eq _ _ _ (fun c => by rw [hop]; simp),hr]
       exact hn _ _ _ h ⟨G,hg.put o.dst (v := undef) (rep_undef _ _)⟩
      ·exact h.elim
     ·exact h.elim
    ·exact h.elim
  ·exact h.elim
 ·-- maps
  rename_i t hop
  split at h
  ·rename_i d hd
   exact wp_makeMap hs hop hd h hn
  ·exact h.elim
 ·rename_i t len cap hop
  split at h
  ·rename_i d hd
   exact wp_make hs hop hd h hn
  ·exact h.elim
 ·rename_i t m k x hop
  exact wp_upd hs (.inl hop) h hn
 ·rename_i t m k x hop
  exact wp_upd hs (.inr hop) h hn
 ·rename_i t x hop
  split at h
  ·rename_i d hd
   exact wp_rangeM hs hop hd h hn
  ·exact h.elim
 ·rename_i it hop
  exact wp_next hs hop h hn
 ·rename_i t x lo hi mx hop
  unfold evSliceO at h
  split at h
  ·rename_i k T esz hx
   split at h
   ·exact wp_evCutO hs hop hx h hn
   ·exact h.elim
  ·exact viaVal (by rw [hop]; exact h)
 ·-- calls
  rename_i c hop
  obtain ⟨callee,args,types⟩ := c
  simp only at h
  split at h
  ·-- append
   split at h
   ·rename_i vx vy t u d hargs htypes hd
    obtain ⟨args⟩ := args
    obtain ⟨types⟩ := types
    simp only at hargs htypes
    subst htypes
    cases args with
    | nil => simp at hargs
    | cons x args =>
    cases args with
    | nil => simp at hargs
    | cons y args =>
    cases args with
    | cons z args => simp at hargs
    | nil =>
    simp only [List.map_cons,List.map_nil,List.cons.injEq,and_true] at hargs
    obtain ⟨rfl,rfl⟩ := hargs
    split at h
    ·rename_i o2 T2 e2 hy2
     exact wp_evAppO hs hop hd hy2 h hn
    ·exact wp_evAppend hs hop hd h hn
   ·exact h.elim
  ·-- other builtins
   exact wp_of_yields hs (yields_builtin hs hop h) fun x v G' w' hk hs' hv => hn _ _ _ hk ⟨G',hs'.put o.dst hv⟩
  ·-- functions
   rename_i f
   have hfv := RepF.val hs f
   unfold evCall at h
   have byC : ∀ {g : FuncId} {first captured : Array Value} {xs : List AV},a.eval f = .func (.func g) first captured →
    ((first ++ args.map a.eval ++ captured).toList.length = xs.length ∧ ∀ (i : Nat) (c : Value) (x : AV),(first ++ args.map a.eval ++ captured).toList[i]? = some c → xs[i]? = some x → Rep G.imm w c x) →
    (∃ R,CallsTo E.C g xs R ∧ ∀ r,R r → gotK S o.dst r K) → Owp E o a w next Q := fun hv hr ⟨R,hc,hk⟩ =>
    wp_call hs hop hv hr hc fun r v w' hR hb hok => by
     obtain ⟨G',hg⟩ := got_sound hs (dst := o.dst) hb hok
     exact hn _ _ _ (gotK_eq S o.dst r K ▸ hk r hR) ⟨G',hg⟩
   split at h
   ·rename_i g first captured hf
    rw [hf] at hfv
    obtain ⟨fs,cs,hv,h1,h2⟩ := fn_inv hfv
    split at h
    ·have h3 := appendF_rep (appendF_rep (mapP_rep (G := G) h1 rfl) (vals_rep hs args.toList)) (mapP_rep (G := G) h2 rfl)
     exact wp_inl hs hcall hY (first := fs.toArray) (captured := cs.toArray) hop hv (by simpa using h3) h hn
    split at h
    ·have h3 := appendF_rep (appendF_rep (mapP_rep (G := G) h1 rfl) (vals_rep hs args.toList)) (mapP_rep (G := G) h2 rfl)
     exact wp_objP hs (first := fs.toArray) (captured := cs.toArray) hop hv (by simpa using h3) h hn hP
    split at h
    ·rename_i xs hxs
     have h3 := append_rep (append_rep h1 (toAVs_rep (vals_rep hs args.toList) hxs)) h2
     split at h
     ·rename_i n hgn
      have e1 : fs = [] := List.length_eq_zero_iff.1 (by simpa using h1.1)
      have e2 : cs = [] := List.length_eq_zero_iff.1 (by simpa using h2.1)
      subst e1; subst e2
      rcases h with ⟨R,hg,hk⟩ | h
      ·have hvr := vals_rep hs args.toList
       unfold growN at hgn
       split at hgn
       ·rename_i q m hq
        obtain rfl := Option.some.inj hgn
        rw [hq] at hvr
        obtain ⟨hl,hr⟩ := hvr
        obtain ⟨v0,v1,hvs⟩ : ∃ v0 v1,args.toList.map a.eval = [v0,v1] := by
         match hm : args.toList.map a.eval,hl with
         | [v0,v1],_ => exact ⟨v0,v1,rfl⟩
        rw [hvs] at hr
        have r0 := hr 0 v0 _ rfl rfl
        have r1 := hr 1 v1 _ rfl rfl
        obtain ⟨ad,hv0⟩ : ∃ ad,v0 = .slice ad 0 0 := by
         cases r0 with
         | full xs ad h => exact ⟨ad,rfl⟩
        obtain rfl : v1 = .int .i64 m := by
         cases r1 with
         | p v x h => cases h; rfl
        subst hv0
        obtain ⟨⟨fn,g1,g2,g3⟩,hg⟩ := hg
        have hJ := hs.J
        refine ⟨fun f _ => Env.fence_fn f,?_⟩
        rw [Oper.semAt_eq _ _ _ (fun c => by rw [hop]; simp),run_call hop hv g1 g2 g3,Oper.uponIn_enter]
        have hargs : #[] ++ args.map a.eval ++ #[] = #[.slice ad 0 0,.int .i64 m] := by
         apply Array.toList_inj.1
         simpa using hvs
        refine ⟨fun h => (by rw [Env.fence_depth] at h; cases h),callsIn_fence ?_⟩
        show Calls E.C.P g (#[] ++ args.map a.eval ++ #[]) w _
        rw [hargs]
        refine (hg G.imm w ad hJ.1 hJ.2 hs.immLt).mono ?_
        rintro e w' ⟨v,r,rfl,hR,hok,hb⟩
        obtain ⟨G',hg'⟩ := got_sound hs (dst := o.dst) hb hok
        exact hn _ _ _ (gotK_eq S o.dst r K ▸ hk r hR) ⟨G',hg'⟩
       ·cases hgn
      ·exact byC (first := #[]) (captured := #[]) hv (by simpa using h3) h
     ·exact byC (first := fs.toArray) (captured := cs.toArray) hv (by simpa using h3) h
    ·have h3 := appendF_rep (appendF_rep (mapP_rep (G := G) h1 rfl) (vals_rep hs args.toList)) (mapP_rep (G := G) h2 rfl)
     exact wp_inl hs hcall hY (first := fs.toArray) (captured := cs.toArray) hop hv (by simpa using h3) h hn
   ·rename_i g first captured hf
    rw [hf] at hfv
    obtain ⟨fs,cs,hv,h1,h2⟩ := fnF_inv hfv
    have h3 := appendF_rep (appendF_rep h1 (vals_rep hs args.toList)) h2
    split at h
    ·exact wp_objP hs (first := fs.toArray) (captured := cs.toArray) hop hv (by simpa using h3) h hn hP
    split at h
    ·rename_i xs hxs
     exact byC (first := fs.toArray) (captured := cs.toArray) hv (by simpa using toAVs_rep h3 hxs) h
    ·exact wp_inl hs hcall hY (first := fs.toArray) (captured := cs.toArray) hop hv (by simpa using h3) h hn
   ·rename_i l hf
    exact wp_yield hs hY hop hf h hn
   ·exact h.elim
  ·exact h.elim
 ·-- panic
  rename_i x hop
  split at h
  ·rename_i t k n hx
   obtain ⟨hsusp,hpan,ys,hys,hlen⟩ := h
   have hv := RepF.val hs x
   rw [hx] at hv
   generalize hev : a.eval x = v at hv
   cases hv with
   | p _ _ hv =>
   cases hv with
   | iface _ u _ hu =>
   cases hu
   refine ⟨fun f _ => Env.fence_fn f,?_⟩
   have hrun : (execOp a.eval o).run E.C.P w = .halt (.panic (.iface t (.int k n))) w := by
    have h0 : (Instr.panic (.iface t (.int k n))).run E.C.P w = .halt (.panic (.iface t (.int k n))) w := rfl
    simp [execOp,hop,hev,h0,Result.andThen]
   rw [Oper.semAt_eq _ _ _ (fun c => by rw [hop]; simp),hrun,Oper.uponIn_panic]
   have hE : E.susp = [] := by
    have := hs.ext'.suspLen
    rw [hsusp] at this
    exact List.length_eq_zero_iff.1 this.symm
   exact hP hE _ _ _ _ ys hpan hys hlen ⟨G,hs⟩
  ·exact h.elim
 ·exact viaVal h
theorem yielded_bool (hs : SimG E G S a w) {ops : Array Oper} {j d : Nat} {b : Bool} (hd : (ops[j]?).bind (·.dst) = some d) (hg : S.get d = .p (.bool b)) : yielded ops a.tmps j = some b := by
 have h := RepF.get hs d
 rw [hg] at h
 have h := h.bool_inv
 unfold yielded
 rw [hd]
 have hlt : d < a.tmps.size := by
  rw [hs.size]
  unfold ASt.get at hg
  split at hg
  ·rename_i hb; simpa using hb
  ·cases hg
 simp only [Option.bind_some]
 rw [Array.getElem?_eq_getElem hlt]
 simp only [Array.getD,hlt,dite_true] at h
 change a.tmps[d] = _ at h
 rw [h]
theorem yielded_undef (hs : SimG E G S a w) {ops : Array Oper} {j d : Nat} (hd : (ops[j]?).bind (·.dst) = some d) (hg : S.get d = .p (.tup [])) : yielded ops a.tmps j = none := by
 have h := RepF.get hs d
 rw [hg] at h
 have h := h.undef_inv
 unfold yielded
 rw [hd]
 simp only [Option.bind_some]
 by_cases hlt : d < a.tmps.size
 ·rw [Array.getElem?_eq_getElem hlt]
  simp only [Array.getD,hlt,dite_true] at h
  change a.tmps[d] = _ at h
  rw [h]
  rfl
 ·rw [Array.getElem?_eq_none (by omega)]
theorem evOps_sound {call : CallH} {Y : Yld} (hcall : CallOK E.C call) (hY : YldSound E Y) {ops : Array Oper} {K : ASt → Prop} {Q : Exit → Act → World → Prop} (hQ : ∀ S' a' w',K S' → Sim E S' a' w' → Q .normal a' w') (hP : PanOK E Q) :
 ∀ (l : List Oper) (S : ASt) (a : Act) (w : World),evOps E.C call Y ops l K S → Sim E S a w → wpListIn E.fence 0 E.C.P ops Q l a w := by
 intro l
 induction l with
 | nil => intro S a w h hs; exact wpListIn_nil (hQ _ _ _ h hs)
 | cons o l ih =>
   intro S a w h hs
   obtain ⟨G,hs⟩ := hs
   simp only [evOps] at h
   refine wpListIn_step fun K' hK' => ?_
   split at h
   ·rename_i hg
    rw [if_pos (by simp [Region.wanted,hg])]
    exact evOp_sound hcall hY hs h hP fun S' a' w' hk hs' => hK' _ _ (ih _ _ _ hk hs')
   ·rename_i j want hg
    split at h
    ·exact h.elim
    ·rename_i d hd
     split at h
     ·rename_i b hb
      have hy := yielded_bool hs hd hb
      split at h
      ·rename_i hbw
       rw [sameB_eq] at hbw
       rw [if_pos (by simp [Region.wanted,hg,hy,beq_iff_eq.1 hbw])]
       exact evOp_sound hcall hY hs h hP fun S' a' w' hk hs' => hK' _ _ (ih _ _ _ hk hs')
      ·rename_i hbw
       rw [sameB_eq] at hbw
       rw [if_neg (by simp [Region.wanted,hg,hy]; exact beq_eq_false_iff_ne.1 hbw)]
       exact ⟨fun f _ => Env.fence_fn f,hK' _ _ (ih _ _ _ h ⟨G,hs.put o.dst (rep_undef G w)⟩)⟩
     ·rename_i hb
      have hy := yielded_undef hs hd hb
      rw [if_neg (by simp [Region.wanted,hg,hy])]
      exact ⟨fun f _ => Env.fence_fn f,hK' _ _ (ih _ _ _ h ⟨G,hs.put o.dst (rep_undef G w)⟩)⟩
     ·exact h.elim
structure Off (ds : List Nat) (S S' : ASt) : Prop where
 n : S'.n = S.n
 off : S'.off = S.off
 susp : S'.susp = S.susp
 pend : S'.pend = S.pend
 blds : S'.blds = S.blds
 objs : S'.objs = S.objs
 maps : S'.maps = S.maps
 its : S'.its = S.its
 tmps : ∀ i,memN i ds = false → S'.tmps i = S.tmps i
theorem memN_iff {i : Nat} {ds : List Nat} : memN i ds = true ↔ i ∈ ds := by
 induction ds with
 | nil => simp [memN]
 | cons d ds ih =>
   simp only [memN]
   by_cases h : i = d
   ·subst h; simp
   ·have : Nat.beq i d = false := by
     cases hb : Nat.beq i d
     ·rfl
     ·exact absurd (Nat.eq_of_beq_eq_true hb) h
    rw [this]
    simp [ih,h]
theorem Off.put {ds : List Nat} {S S' : ASt} (h : Off ds S S') {dst : Option Nat} (hd : ∀ d,dst = some d → d ∈ ds) (v : FV) : Off ds S (S'.put dst v) := by
 cases dst with
 | none => exact h
 | some d =>
   refine ⟨h.n,h.off,h.susp,h.pend,h.blds,h.objs,h.maps,h.its,fun i hi => ?_⟩
   simp only [ASt.put]
   have hne : i ≠ d := fun e => by
    have := memN_iff.2 (hd d rfl)
    rw [← e,hi] at this
    cases this
   have : Nat.beq i d = false := by
    cases hb : Nat.beq i d
    ·rfl
    ·exact absurd (Nat.eq_of_beq_eq_true hb) hne
   rw [this]
   exact h.tmps i hi
theorem evQ_off {C : Ctx} {ops : Array Oper} {ds : List Nat} {S0 : ASt} : ∀ (l : List Oper) (K : ASt → Prop) (S : ASt),(∀ o,o ∈ l → ∀ d,o.dst = some d → d ∈ ds) → Off ds S0 S → evQ C ops l K S → evQ C ops l (fun S' => K S' ∧ Off ds S0 S') S := by
 intro l
 induction l with
 | nil => intro K S _ ho h; exact ⟨h,ho⟩
 | cons o l ih =>
   intro K S hl ho h
   have hd := hl o List.mem_cons_self
   have hl' := fun o' ho' => hl o' (List.mem_cons_of_mem _ ho')
   simp only [evQ] at h ⊢
   split at h
   ·rename_i hg
    obtain ⟨v,h1,h2⟩ := h
    try simp only [hg]
    exact ⟨v,h1,ih _ _ hl' (ho.put hd v) h2⟩
   ·rename_i j want hg
    try simp only [hg]
    split at h
    ·exact h.elim
    ·rename_i d hdj
     try simp only [hdj]
     split at h
     ·rename_i b hb
      first
       | rw [hb]
       | skip
      cases hsb : sameB b want with
      | true =>
        simp only [hsb] at h ⊢
        obtain ⟨v,h1,h2⟩ := h
        exact ⟨v,h1,ih _ _ hl' (ho.put hd v) h2⟩
      | false =>
        simp only [hsb] at h ⊢
        exact ih _ _ hl' (ho.put hd _) h
     ·rename_i hb
      first
       | rw [hb]
       | skip
      exact ih _ _ hl' (ho.put hd _) h
     ·exact h.elim
theorem evVal_put {K : FV → Prop} (hs : SimG E G S a w) {v : FV} (h : evVal E.C S o.op fun u => u = v) {next : Act → World → Prop} {Q : Exit → Act → World → Prop}
 (hn : ∀ a' w',Sim E (S.put o.dst v) a' w' → next a' w') : Owp E o a w next Q :=
 evVal_sound hs h fun x u G' w' hk hs' hv => hn _ _ ⟨G',by subst hk; exact hs'.put o.dst hv⟩
theorem evQ_sound {ops : Array Oper} {K : ASt → Prop} {Q : Exit → Act → World → Prop} (hQ : ∀ S' a' w',K S' → Sim E S' a' w' → Q .normal a' w') :
 ∀ (l : List Oper) (S : ASt) (a : Act) (w : World),evQ E.C ops l K S → Sim E S a w → wpListIn E.fence 0 E.C.P ops Q l a w := by
 intro l
 induction l with
 | nil => intro S a w h hs; exact wpListIn_nil (hQ _ _ _ h hs)
 | cons o l ih =>
   intro S a w h hs
   obtain ⟨G,hs⟩ := hs
   simp only [evQ] at h
   refine wpListIn_step fun K' hK' => ?_
   split at h
   ·rename_i hg
    rw [if_pos (by simp [Region.wanted,hg])]
    obtain ⟨v,h1,h2⟩ := h
    exact evVal_put (K := fun _ => True) hs h1 fun a' w' hs' => hK' _ _ (ih _ _ _ h2 hs')
   ·rename_i j want hg
    split at h
    ·exact h.elim
    ·rename_i d hd
     split at h
     ·rename_i b hb
      have hy := yielded_bool hs hd hb
      split at h
      ·rename_i hbw
       rw [sameB_eq] at hbw
       rw [if_pos (by simp [Region.wanted,hg,hy,beq_iff_eq.1 hbw])]
       obtain ⟨v,h1,h2⟩ := h
       exact evVal_put (K := fun _ => True) hs h1 fun a' w' hs' => hK' _ _ (ih _ _ _ h2 hs')
      ·rename_i hbw
       rw [sameB_eq] at hbw
       rw [if_neg (by simp [Region.wanted,hg,hy]; exact beq_eq_false_iff_ne.1 hbw)]
       exact ⟨fun f _ => Env.fence_fn f,hK' _ _ (ih _ _ _ h ⟨G,hs.put o.dst (rep_undef G w)⟩)⟩
     ·rename_i hb
      have hy := yielded_undef hs hd hb
      rw [if_neg (by simp [Region.wanted,hg,hy])]
      exact ⟨fun f _ => Env.fence_fn f,hK' _ _ (ih _ _ _ h ⟨G,hs.put o.dst (rep_undef G w)⟩)⟩
     ·exact h.elim
theorem Weak.refl (x : FV) : Weak x x := fun _ _ _ h => h
theorem Weak.junk (x : FV) : Weak x .junk := fun _ _ _ _ => .junk _
theorem getAll_keep {K : ASt → Prop} {S' : ASt} : ∀ (rs : List Nat) (T : ASt) (φ : List FV → Prop),evKeep K T rs φ → φ (getAll S' rs) → Weaken S' T → ∃ T',K T' ∧ Weaken S' T' := by
 intro rs
 induction rs with
 | nil => intro T φ h hφ hw; exact ⟨T,h.out hφ,hw⟩
 | cons r rs ih =>
   intro T φ h hφ hw
   refine ih _ _ (h.out (S'.get r)) hφ ⟨hw.n,hw.off,hw.pend,hw.blds,hw.susp,fun i => ?_,hw.objs,hw.maps,hw.its⟩
   simp only [ASt.put]
   split
   ·rename_i hb
    obtain rfl := Nat.eq_of_beq_eq_true hb
    unfold ASt.get
    split
    ·exact Weak.refl _
    ·exact Weak.junk _
   ·exact hw.tmps i
theorem Off.weaken {ds : List Nat} {S S' : ASt} (h : Off ds S S') : Weaken S' (S.junked ds) := by
 refine ⟨h.n.symm,h.off.symm,h.pend.symm,fun o bs q => ⟨by rw [h.blds]; exact q,fun q2 => by show Qv.getObj S.objs o = none; rw [← h.objs]; exact q2⟩,⟨by show S.susp.length = _; rw [h.susp],fun i f f' h1 h2 => by
  have h2' : S.susp[i]? = some f' := h2
  rw [h.susp,h2'] at h1
  obtain rfl := Option.some.inj h1
  exact ⟨rfl,rfl,fun _ => Weak.refl _⟩⟩,fun i => ?_,fun o ys ho => ?_,fun o l hl => ?_,fun q x hx => by rw [h.its]; exact hx⟩
 ·simp only [ASt.junked]
  cases hm : memN i ds with
  | true => exact Weak.junk _
  | false => simp only; rw [h.tmps i hm]; exact Weak.refl _
 ·rw [h.objs]
  exact ⟨ys,ho,rfl,fun i x y hx hy => by rw [hx] at hy; obtain rfl := Option.some.inj hy; exact Weak.refl _⟩
 ·rw [h.maps]
  exact ⟨l,hl,rfl,fun i p p' h1 h2 => by rw [h1] at h2; obtain rfl := Option.some.inj h2; exact ⟨rfl,Weak.refl _⟩⟩
theorem mem_dstsOf {l : List Oper} {o : Oper} (h : o ∈ l) {d : Nat} (hd : o.dst = some d) : d ∈ dstsOf l := by
 induction l with
 | nil => cases h
 | cons p l ih =>
   simp only [dstsOf]
   rcases List.mem_cons.1 h with rfl | h
   ·rw [hd]; exact List.mem_cons_self
   ·split
    ·exact List.mem_cons_of_mem _ (ih h)
    ·exact ih h
end
end Qv

end

section
namespace Qv
open Go Go.RowKit
section
variable {E : Env} {G : Ghost} {S : ASt} {a : Act} {w : World} {o : Oper} {ops : Array Oper} {C : Ctx} {call : CallH} {Y : Yld}
theorem placeParts_congr {fs : List (Nat × TypeId)} {tab : List (TypeId × TInfo)} {S S' : ASt} : ∀ (parts : List (Nat × Operand)) (cells : List FV),(∀ p,p ∈ parts → S'.val p.2 = S.val p.2) →
 placeParts fs tab S' parts cells = placeParts fs tab S parts cells := by
 intro parts
 induction parts with
 | nil => intro cells _; rfl
 | cons p parts ih =>
   obtain ⟨i,x⟩ := p
   intro cells h
   have hx := h (i,x) List.mem_cons_self
   simp only at hx
   simp only [placeParts,hx]
   split
   ·rfl
   ·split
    ·rfl
    ·split
     ·split
      ·rfl
      ·exact ih _ fun p hp => h p (List.mem_cons_of_mem _ hp)
     ·rfl
theorem placeElems_congr {size : Nat} {S S' : ASt} : ∀ (parts : List (Nat × Operand)) (cells : List FV),(∀ p,p ∈ parts → S'.val p.2 = S.val p.2) →
 placeElems size S' parts cells = placeElems size S parts cells := by
 intro parts
 induction parts with
 | nil => intro cells _; rfl
 | cons p parts ih =>
   obtain ⟨i,x⟩ := p
   intro cells h
   have hx := h (i,x) List.mem_cons_self
   simp only at hx
   simp only [placeElems,hx]
   split
   ·split
    ·rfl
    ·exact ih _ fun p hp => h p (List.mem_cons_of_mem _ hp)
   ·rfl
theorem evVal_build {S S' : ASt} {t : TypeId} {parts : Array (Nat × Operand)} {K : FV → Prop} (h : ∀ p,p ∈ parts.toList → S'.val p.2 = S.val p.2) : evVal C S' (.build t parts) K = evVal C S (.build t parts) K := by
 simp only [evVal,evBuild]
 split
 ·split
  ·rfl
  ·rw [placeParts_congr _ _ h]
 ·split
  ·rfl
  ·rw [placeElems_congr _ _ h]
 ·rfl
theorem evVal_buildSlice {S S' : ASt} {t : TypeId} {len : Nat} {parts : Array (Nat × Operand)} {K : FV → Prop} (h : ∀ p,p ∈ parts.toList → S'.val p.2 = S.val p.2) : evVal C S' (.buildSlice t len parts) K = evVal C S (.buildSlice t len parts) K := by
 simp only [evVal,evBuildSlice]
 split
 ·split
  ·rfl
  ·split
   ·rfl
   ·rw [placeElems_congr _ _ h]
 ·rfl
theorem evVal_congr {S S' : ASt} {op : Op} {K : FV → Prop} (hv : ∀ x,x ∈ op.operands → S'.val x = S.val x) (ho : S'.objs = S.objs) (hm : ∀ t x i ok,op = .lookup t x i ok → S'.maps = S.maps) (hit : ∀ it,op = .entry it → S'.its = S.its) : evVal C S' op K = evVal C S op K := by
 cases op <;> try rfl
 case lookup t x i ok => simp only [evVal]; rw [hv x (by simp [Op.operands]),hv i (by simp [Op.operands]),hm _ _ _ _ rfl]
 case entry it => simp only [evVal,evEntry]; rw [hv it (by simp [Op.operands]),hit _ rfl]
 case move x => simp only [evVal]; rw [hv x (by simp [Op.operands])]
 case assign x => simp only [evVal]; rw [hv x (by simp [Op.operands])]
 case pick c x y => simp only [evVal]; rw [hv c (by simp [Op.operands]),hv x (by simp [Op.operands]),hv y (by simp [Op.operands])]
 case binOp op t x y yt => simp only [evVal]; rw [hv x (by simp [Op.operands]),hv y (by simp [Op.operands])]
 case unOp op t x => simp only [evVal]; rw [hv x (by simp [Op.operands])]
 case convert s d x => simp only [evVal]; rw [hv x (by simp [Op.operands])]
 case makeInterface t x => simp only [evVal]; rw [hv x (by simp [Op.operands])]
 case makeFunc fn first captured =>
  simp only [evVal]
  have h1 : first.toList.map S'.val = first.toList.map S.val := List.map_congr_left fun x hx => hv x (by simp [Op.operands]; exact .inl (by simpa using hx))
  have h2 : captured.toList.map S'.val = captured.toList.map S.val := List.map_congr_left fun x hx => hv x (by simp [Op.operands]; exact .inr (by simpa using hx))
  rw [h1,h2]
 case build t parts => exact evVal_build fun p hp => hv p.2 (by simp [Op.operands]; exact ⟨p.1,by simpa using hp⟩)
 case buildSlice t len parts => exact evVal_buildSlice fun p hp => hv p.2 (by simp [Op.operands]; exact ⟨p.1,by simpa using hp⟩)
 case load t x => simp only [evVal]; rw [hv x (by simp [Op.operands]),ho]
 case nilCheck x => simp only [evVal]; rw [hv x (by simp [Op.operands])]
 case fieldAddr s x f => simp only [evVal]; rw [hv x (by simp [Op.operands])]
 case field s x f => simp only [evVal]; rw [hv x (by simp [Op.operands])]
 case indexAddr t x i => simp only [evVal]; rw [hv x (by simp [Op.operands]),hv i (by simp [Op.operands]),ho]
 case index t x i => simp only [evVal]; rw [hv x (by simp [Op.operands]),hv i (by simp [Op.operands])]
 case slice t x lo hi mx =>
  cases mx with
  | some m => rfl
  | none =>
    simp only [evVal]
    have h1 : lo.map S'.val = lo.map S.val := by cases lo with
     | none => rfl
     | some y => simp only [Option.map_some]; rw [hv y (by simp [Op.operands])]
    have h2 : hi.map S'.val = hi.map S.val := by cases hi with
     | none => rfl
     | some y => simp only [Option.map_some]; rw [hv y (by simp [Op.operands])]
    rw [hv x (by simp [Op.operands]),h1,h2]
 case extract x i => simp only [evVal]; rw [hv x (by simp [Op.operands])]
 case call c =>
  obtain ⟨callee,args,types⟩ := c
  have h1 : args.toList.map S'.val = args.toList.map S.val := List.map_congr_left fun x hx => hv x (by
   cases callee <;> simp [Op.operands,Call.operands] <;> first | exact .inr (by simpa using hx) | (simpa using hx))
  cases callee with
  | value f => simp only [evVal]; rw [h1,hv f (by simp [Op.operands,Call.operands])]
  | builtin b => simp only [evVal]; rw [h1,ho]
  | invoke r m => rfl
theorem ASt.put_get_ne {S : ASt} {dst : Option Nat} {v : FV} {t : Nat} (h : ∀ d,dst = some d → t ≠ d) : (S.put dst v).get t = S.get t := by
 cases dst with
 | none => rfl
 | some d =>
   have hne := h d rfl
   have : Nat.beq t d = false := by
    cases hb : Nat.beq t d
    ·rfl
    ·exact absurd (Nat.eq_of_beq_eq_true hb) hne
   simp only [ASt.get,ASt.put,this]
theorem ASt.put_val_ne {S : ASt} {dst : Option Nat} {v : FV} {x : Operand} (h : ∀ d,dst = some d → x ≠ .tmp d) : (S.put dst v).val x = S.val x := by
 cases x with
 | tmp t => exact ASt.put_get_ne fun d hd e => h d hd (by rw [e])
 | _ => rfl
theorem ASt.put_objs {S : ASt} {dst : Option Nat} {v : FV} : (S.put dst v).objs = S.objs := by cases dst <;> rfl
theorem ASt.put_comm {S : ASt} {x y : Option Nat} {u v : FV} (h : ∀ d,x = some d → y ≠ some d) : (S.put x u).put y v = (S.put y v).put x u := by
 cases x with
 | none => rfl
 | some d =>
   cases y with
   | none => rfl
   | some e =>
     have hne : d ≠ e := fun he => h d rfl (he ▸ rfl)
     simp only [ASt.put]
     congr 1
     funext i
     by_cases h1 : i = d
     ·have h2 : Nat.beq i e = false := by
       cases hb : Nat.beq i e
       ·rfl
       ·exact absurd ((Nat.eq_of_beq_eq_true hb).symm.trans h1).symm hne
      rw [h2]
     ·have h2 : Nat.beq i d = false := by
       cases hb : Nat.beq i d
       ·rfl
       ·exact absurd (Nat.eq_of_beq_eq_true hb) h1
      rw [h2]
theorem evVal_put_ne {S : ASt} {dst : Option Nat} {v : FV} {o : Oper} {K : FV → Prop} (h : ∀ d,dst = some d → d ∉ o.looksAt ops) : evVal C (S.put dst v) o.op K = evVal C S o.op K :=
 evVal_congr (fun x hx => ASt.put_val_ne fun d hd hxd => h d hd (by
  subst hxd
  exact List.mem_append_left _ (List.mem_filterMap.2 ⟨.tmp d,by simpa using hx,rfl⟩))) ASt.put_objs (fun _ _ _ _ _ => by cases dst <;> rfl) (fun _ _ => by cases dst <;> rfl)
def wantedA (ops : Array Oper) (S : ASt) (o : Oper) : Option Bool :=
 match o.guard with
 | none => some true
 | some (j,want) => match (ops[j]?).bind (·.dst) with
   | none => none
   | some d => match S.get d with
     | .p (.bool b) => some (b == want)
     | .p (.tup []) => some false
     | _ => none
theorem wantedA_put {dst : Option Nat} {v : FV} (h : ∀ d,dst = some d → d ∉ o.looksAt ops) : wantedA ops (S.put dst v) o = wantedA ops S o := by
 unfold wantedA
 split
 ·rfl
 ·rename_i j want hg
  split
  ·rfl
  ·rename_i d hd
   have : (S.put dst v).get d = S.get d := ASt.put_get_ne fun e he hde => h e he (by subst hde; simp [Oper.looksAt,hg,hd])
   rw [this]
theorem wantedA_spec (hs : SimG E G S a w) {b : Bool} (h : wantedA ops S o = some b) : Region.wanted o (yielded ops a.tmps) = b := by
 unfold wantedA at h
 unfold Region.wanted
 split at h
 ·rename_i hg
  rw [hg]
  exact Option.some.inj h
 ·rename_i j want hg
  rw [hg]
  split at h
  ·cases h
  ·rename_i d hd
   split at h
   ·rename_i c hc
    simp only [yielded_bool hs hd hc]
    have := Option.some.inj h
    rw [← this]
    cases c <;> cases want <;> rfl
   ·rename_i hc
    simp only [yielded_undef hs hd hc]
    exact Option.some.inj h
   ·cases h
def undefF : FV := .p (.tup [])
def qStep (C : Ctx) (ops : Array Oper) (o : Oper) (K : ASt → Prop) (S : ASt) : Prop :=
 match wantedA ops S o with
 | some true => ∃ v,evVal C S o.op (fun u => u = v) ∧ K (S.put o.dst v)
 | some false => K (S.put o.dst undefF)
 | none => False
def lStep (C : Ctx) (call : CallH) (Y : Yld) (ops : Array Oper) (o : Oper) (K : ASt → Prop) (S : ASt) : Prop :=
 match wantedA ops S o with
 | some true => evOp C call Y o K S
 | some false => K (S.put o.dst undefF)
 | none => False
theorem evQ_cons {rest : List Oper} {K : ASt → Prop} (h : evQ C ops (o :: rest) K S) : qStep C ops o (evQ C ops rest K) S := by
 simp only [evQ] at h
 unfold qStep wantedA
 split at h
 ·rename_i hg
  rw [hg]
  exact h
 ·rename_i j want hg
  rw [hg]
  split at h
  ·exact h.elim
  ·rename_i d hd
   simp only [hd]
   split at h
   ·rename_i b hb
    rw [sameB_eq] at h
    simp only [hb]
    cases hbw : (b == want) with
    | true => rw [hbw] at h; exact h
    | false => rw [hbw] at h; exact h
   ·rename_i hb
    simp only [hb]
    exact h
   ·exact h.elim
theorem evOps_cons {rest : List Oper} {K : ASt → Prop} (h : evOps C call Y ops (o :: rest) K S) : lStep C call Y ops o (evOps C call Y ops rest K) S := by
 simp only [evOps] at h
 unfold lStep wantedA
 split at h
 ·rename_i hg
  rw [hg]
  exact h
 ·rename_i j want hg
  rw [hg]
  split at h
  ·exact h.elim
  ·rename_i d hd
   simp only [hd]
   split at h
   ·rename_i b hb
    rw [sameB_eq] at h
    simp only [hb]
    cases hbw : (b == want) with
    | true => rw [hbw] at h; exact h
    | false => rw [hbw] at h; exact h
   ·rename_i hb
    simp only [hb]
    exact h
   ·exact h.elim
def YieldsA (C : Ctx) (ops : Array Oper) (o : Oper) (x : FV) (S : ASt) : Prop :=
 (wantedA ops S o = some true ∧ evVal C S o.op fun u => u = x) ∨ (wantedA ops S o = some false ∧ x = undefF)
theorem qStep_yields {K : ASt → Prop} (h : qStep C ops o K S) : ∃ x,YieldsA C ops o x S ∧ K (S.put o.dst x) := by
 unfold qStep at h
 split at h
 ·rename_i hw
  obtain ⟨v,h1,h2⟩ := h
  exact ⟨v,.inl ⟨hw,h1⟩,h2⟩
 ·rename_i hw
  exact ⟨undefF,.inr ⟨hw,rfl⟩,h⟩
 ·exact h.elim
theorem YieldsA.qStep {x : FV} (hy : YieldsA C ops o x S) {K : ASt → Prop} (h : K (S.put o.dst x)) : qStep C ops o K S := by
 unfold Qv.qStep
 rcases hy with ⟨hw,hv⟩ | ⟨hw,rfl⟩
 ·rw [hw]; exact ⟨x,hv,h⟩
 ·rw [hw]; exact h
theorem YieldsA.put {x : FV} (hy : YieldsA C ops o x S) {dst : Option Nat} {v : FV} (h : ∀ d,dst = some d → d ∉ o.looksAt ops) : YieldsA C ops o x (S.put dst v) := by
 unfold YieldsA at *
 rw [wantedA_put h,evVal_put_ne h]
 exact hy
theorem YieldsA.unput {x : FV} {dst : Option Nat} {v : FV} (hy : YieldsA C ops o x (S.put dst v)) (h : ∀ d,dst = some d → d ∉ o.looksAt ops) : YieldsA C ops o x S := by
 unfold YieldsA at *
 rw [wantedA_put h,evVal_put_ne h] at hy
 exact hy
theorem qStep_put {oi oj : Oper} {x : FV} (hap : oi.apart ops oj = true) {K : ASt → Prop} (hy : YieldsA C ops oi x S) (h : qStep C ops oj K (S.put oi.dst x)) :
 qStep C ops oj (fun S' => YieldsA C ops oi x S' ∧ K (S'.put oi.dst x)) S := by
 obtain ⟨h1,h2,h3⟩ := Oper.apart_spec hap
 obtain ⟨u,hu,hK⟩ := qStep_yields h
 refine (hu.unput h1).qStep ⟨hy.put h3,?_⟩
 rw [← ASt.put_comm h2]
 exact hK
def stepA (C : Ctx) (call : CallH) (Y : Yld) (ops : Array Oper) (q : Nat → Bool) (i : Nat) (K : ASt → Prop) (S : ASt) : Prop :=
 match ops[i]? with
 | none => K S
 | some o => match q i with
   | true => qStep C ops o K S
   | false => ∃ K' : ASt → Prop,lStep C call Y ops o K' S ∧ ∀ S',K' S' → K S'
def anyA (C : Ctx) (call : CallH) (Y : Yld) (ops : Array Oper) (q : Nat → Bool) (K : ASt → Prop) : Nat → Array Bool → ASt → Prop
 | 0,listed,S => Region.ready .any ops listed = [] ∧ K S
 | fuel + 1,listed,S => (Region.ready .any ops listed = [] → K S) ∧ ∀ i ∈ Region.ready .any ops listed,stepA C call Y ops q i (anyA C call Y ops q K fuel (listed.setIfInBounds i true)) S
theorem qStep_sound (hs : Sim E S a w) {K : ASt → Prop} {K' : Act → World → Prop} {Q : Exit → Act → World → Prop} (h : qStep E.C ops o K S) (hK : ∀ S a w,K S → Sim E S a w → K' a w) :
 if Region.wanted o (yielded ops a.tmps) then Owp E o a w K' Q else (∀ f,o.about E.C.P w a.eval = some f → E.fence.fn f) ∧ K' (a.put o.dst undef) w := by
 obtain ⟨G,hs⟩ := hs
 unfold qStep at h
 split at h
 ·rename_i hw
  rw [if_pos (wantedA_spec hs hw)]
  obtain ⟨v,h1,h2⟩ := h
  exact evVal_put (K := fun _ => True) hs h1 fun a' w' hs' => hK _ _ _ h2 hs'
 ·rename_i hw
  rw [if_neg (by rw [wantedA_spec hs hw]; simp)]
  exact ⟨fun f _ => Env.fence_fn f,hK _ _ _ h ⟨G,hs.put o.dst (rep_undef G w)⟩⟩
 ·exact h.elim
theorem lStep_sound (hcall : CallOK E.C call) (hY : YldSound E Y) (hs : Sim E S a w) {K : ASt → Prop} {K' : Act → World → Prop} {Q : Exit → Act → World → Prop} (h : lStep E.C call Y ops o K S) (hP : PanOK E Q) (hK : ∀ S a w,K S → Sim E S a w → K' a w) :
 if Region.wanted o (yielded ops a.tmps) then Owp E o a w K' Q else (∀ f,o.about E.C.P w a.eval = some f → E.fence.fn f) ∧ K' (a.put o.dst undef) w := by
 obtain ⟨G,hs⟩ := hs
 unfold lStep at h
 split at h
 ·rename_i hw
  rw [if_pos (wantedA_spec hs hw)]
  exact evOp_sound hcall hY hs h hP fun S' a' w' hk hs' => hK _ _ _ hk hs'
 ·rename_i hw
  rw [if_neg (by rw [wantedA_spec hs hw]; simp)]
  exact ⟨fun f _ => Env.fence_fn f,hK _ _ _ h ⟨G,hs.put o.dst (rep_undef G w)⟩⟩
 ·exact h.elim
theorem anyA_sound (hcall : CallOK E.C call) (hY : YldSound E Y) {q : Nat → Bool} {K : ASt → Prop} {Q : Exit → Act → World → Prop} (hQ : ∀ S a w,K S → Sim E S a w → Q .normal a w) (hP : PanOK E Q) :
 ∀ (fuel : Nat) (listed : Array Bool) (S : ASt) (a : Act) (w : World),Sim E S a w → anyA E.C call Y ops q K fuel listed S → wpAnyIn E.fence 0 E.C.P .any ops Q fuel listed a w := by
 intro fuel
 induction fuel with
 | zero => intro listed S a w hs h; exact ⟨h.1,hQ _ _ _ h.2 hs⟩
 | succ fuel ih =>
   intro listed S a w hs h
   refine ⟨fun h0 => hQ _ _ _ (h.1 h0) hs,fun i hi => ?_⟩
   have h2 := h.2 i hi
   unfold stepA at h2
   unfold wpOpIn
   split at h2
   ·rename_i ho
    simp only [ho]
    exact ih _ _ _ _ hs h2
   ·rename_i o ho
    simp only [ho]
    split at h2
    ·exact qStep_sound hs h2 fun S a w hk hs' => ih _ _ _ _ hs' hk
    ·obtain ⟨K',h3,h4⟩ := h2
     exact lStep_sound hcall hY hs h3 hP fun S a w hk hs' => ih _ _ _ _ hs' (h4 _ hk)
def Closed (ops : Array Oper) (listed : Array Bool) : Prop := listed.size = ops.size ∧
 ∀ p o,ops[p]? = some o → listed.getD p false = true → ∀ e ∈ o.after,Region.binds .any e = true → listed.getD e.on false = true
theorem Closed.set {listed : Array Bool} {i : Nat} (h : Closed ops listed) (hi : i ∈ Region.ready .any ops listed) : Closed ops (listed.setIfInBounds i true) := by
 obtain ⟨h1,h2⟩ := h
 obtain ⟨h0,o,ho,hall⟩ := mem_ready.1 hi
 refine ⟨by simpa using h1,fun p op hp hl e he hb => ?_⟩
 by_cases hpi : i = p
 ·subst hpi
  rw [ho] at hp
  obtain rfl := Option.some.inj hp
  exact getD_set_true (hall e he hb)
 ·rw [getD_set_ne false hpi] at hl
  exact getD_set_true (h2 p op hp hl e he hb)
theorem Closed.reach {listed : Array Bool} (h : Closed ops listed) : ∀ (fuel j i : Nat),reachB ops fuel j i = true → (∀ o,ops[j]? = some o → ∀ e ∈ o.after,Region.binds .any e = true → listed.getD e.on false = true) → listed.getD i false = true := by
 intro fuel
 induction fuel with
 | zero => intro j i hr; cases hr
 | succ fuel ih =>
   intro j i hr hall
   simp only [reachB] at hr
   split at hr
   ·cases hr
   ·rename_i o ho
    obtain ⟨e,he,hb⟩ := List.any_eq_true.1 hr
    simp only [Bool.and_eq_true,Bool.or_eq_true,beq_iff_eq] at hb
    have hl := hall o ho e (by simpa using he) hb.1
    rcases hb.2 with hi | hr'
    ·exact hi ▸ hl
    ·exact ih e.on i hr' fun o' ho' => h.2 e.on o' ho' hl
theorem unlisted {listed : Array Bool} {i : Nat} (h : listed.getD i true = false) : listed.getD i false = false := by
 rcases Nat.lt_or_ge i listed.size with h' | h'
 ·simp [h'] at h ⊢; exact h
 ·simp [Array.getElem?_eq_none h'] at h
theorem anyA_first {q : Nat → Bool} {K : ASt → Prop} {i : Nat} {oi : Oper} {x : FV} (hi : ops[i]? = some oi) (him : q i = true) :
 ∀ (fuel : Nat) (listed : Array Bool) (S : ASt),Closed ops listed →
   (∀ j oj,ops[j]? = some oj → j ≠ i → listed.getD j true = false → reachB ops ops.size j i = true ∨ (q j = true ∧ oi.apart ops oj = true)) →
   i ∈ Region.ready .any ops listed → YieldsA C ops oi x S →
   anyA C call Y ops q K fuel (listed.setIfInBounds i true) (S.put oi.dst x) → anyA C call Y ops q K (fuel + 1) listed S := by
 have self : ∀ {K' : ASt → Prop} {S : ASt},YieldsA C ops oi x S → K' (S.put oi.dst x) → stepA C call Y ops q i K' S := fun hy h => by
  unfold stepA
  simp only [hi,him]
  exact hy.qStep h
 intro fuel
 induction fuel with
 | zero =>
   intro listed S _ _ hr hy H
   refine ⟨fun h => (by rw [h] at hr; cases hr),fun j hj => ?_⟩
   by_cases hji : j = i
   ·subst hji; exact self hy H
   ·have := ready_mono hj hji
    rw [H.1] at this
    cases this
 | succ fuel ih =>
   intro listed S hcl hfree hr hy H
   refine ⟨fun h => (by rw [h] at hr; cases hr),fun j hj => ?_⟩
   by_cases hji : j = i
   ·subst hji; exact self hy H
   ·have h1 := H.2 j (ready_mono hj hji)
    obtain ⟨hjun,oj,hoj,hall⟩ := mem_ready.1 hj
    rcases hfree j oj hoj hji hjun with hre | ⟨hjm,hap⟩
    ·have h2 := hcl.reach _ _ _ hre fun o ho => by
      rw [hoj] at ho
      obtain rfl := Option.some.inj ho
      exact hall
     rw [unlisted (mem_ready.1 hr).1] at h2
     cases h2
    ·unfold stepA at h1 ⊢
     simp only [hoj,hjm] at h1 ⊢
     have h2 := qStep_put hap hy h1
     have hfree' : ∀ k ok,ops[k]? = some ok → k ≠ i → (listed.setIfInBounds j true).getD k true = false → reachB ops ops.size k i = true ∨ (q k = true ∧ oi.apart ops ok = true) := fun k ok hk hki hun => by
      refine hfree k ok hk hki ?_
      by_cases hjk : j = k
      ·subst hjk; exact hjun
      ·rw [getD_set_ne true hjk] at hun; exact hun
     obtain ⟨y,hy2,h3⟩ := qStep_yields h2
     refine hy2.qStep (ih (listed.setIfInBounds j true) _ (hcl.set hj) hfree' (ready_mono hr (Ne.symm hji)) h3.1 ?_)
     rw [Array.setIfInBounds_comm _ _ hji]
     exact h3.2
theorem freeB_spec {q : Nat → Bool} {listed : Array Bool} {i : Nat} {oi : Oper} (hi : ops[i]? = some oi) (h : freeB ops q listed i = true) (j : Nat) (oj : Oper) (hj : ops[j]? = some oj) (hne : j ≠ i) (hun : listed.getD j true = false) :
 reachB ops ops.size j i = true ∨ (q j = true ∧ oi.apart ops oj = true) := by
 simp only [freeB,hi,List.all_eq_true,List.mem_range] at h
 have h1 := h j (Array.getElem?_eq_some_iff.1 hj).1
 simp only [hj,Bool.or_eq_true,beq_iff_eq,hne,false_or,hun,Bool.false_eq_true,Bool.and_eq_true] at h1
 exact h1
theorem anyA_tail {m : Nat} {K : ASt → Prop} : ∀ (l : List Oper) (k : Nat) (listed : Array Bool) (S : ASt),m ≤ k → (∀ j,l[j]? = ops[k + j]?) →
 drawFrom ops m l.length k listed = true → evOps C call Y ops l K S → anyA C call Y ops (fun i => decide (i < m)) K l.length listed S := by
 intro l
 induction l with
 | nil => intro k listed S _ _ hB h; exact ⟨by simpa [drawFrom] using hB,h⟩
 | cons o l ih =>
   intro k listed S hk hl hB h
   have h0 : ops[k]? = some o := by simpa using (hl 0).symm
   have hkm : decide (k < m) = false := by simp; omega
   simp only [List.length_cons,drawFrom,hkm,Bool.and_eq_true,beq_iff_eq] at hB
   obtain ⟨hr,hB'⟩ := hB
   refine ⟨fun e => (by rw [hr] at e; cases e),fun i hi => ?_⟩
   rw [hr] at hi
   obtain rfl : i = k := by simpa using hi
   unfold stepA
   simp only [h0,hkm]
   exact ⟨_,evOps_cons h,fun S' h' =>
    ih (i + 1) _ S' (by omega) (fun j => by have := hl (j + 1); simpa [Nat.add_assoc,Nat.add_comm 1 j] using this) hB' h'⟩
theorem anyA_lex {m : Nat} {K : ASt → Prop} : ∀ (l l' : List Oper) (k : Nat) (listed : Array Bool) (S : ASt),Closed ops listed → k + l.length = m → (∀ j,(l ++ l')[j]? = ops[k + j]?) →
 drawFrom ops m (l ++ l').length k listed = true → evQ C ops l (evOps C call Y ops l' K) S → anyA C call Y ops (fun i => decide (i < m)) K (l ++ l').length listed S := by
 intro l
 induction l with
 | nil =>
   intro l' k listed S _ hkm hl hB h
   exact anyA_tail l' k listed S (by simp at hkm; omega) (by simpa using hl) (by simpa using hB) h
 | cons o l ih =>
   intro l' k listed S hcl hkm hl hB h
   have h0 : ops[k]? = some o := by simpa using (hl 0).symm
   have hlt : k < m := by simp at hkm; omega
   have hk' : decide (k < m) = true := by simp [hlt]
   simp only [List.cons_append,List.length_cons,drawFrom,hk',Bool.and_eq_true] at hB
   obtain ⟨⟨hr,hf⟩,hB'⟩ := hB
   have hr' : k ∈ Region.ready .any ops listed := by simpa using hr
   obtain ⟨x,hy,hK⟩ := qStep_yields (evQ_cons h)
   simp only [List.cons_append,List.length_cons]
   refine anyA_first h0 hk' (l ++ l').length listed S hcl (fun j oj hj hne hun => freeB_spec h0 hf j oj hj hne hun) hr' hy ?_
   exact ih l' (k + 1) _ _ (hcl.set hr') (by simp at hkm; omega) (fun j => by have := hl (j + 1); simpa [Nat.add_assoc,Nat.add_comm 1 j] using this) hB' hK
theorem draw_sound (hcall : CallOK E.C call) (hY : YldSound E Y) {id m : Nat} {K : ASt → Prop} {Q : Exit → Act → World → Prop} (hQ : ∀ S a w,K S → Sim E S a w → Q .normal a w) (hP : PanOK E Q) (hB : drawOK ops m = true) (hs : Sim E S a w)
 (h : evQ E.C ops (ops.toList.take m) (evOps E.C call Y ops (ops.toList.drop m) K) S) (hm : m ≤ ops.size) : (Code.region id ops true).wpIn E.fence 0 E.C.P Q a w := by
 simp only [drawOK,Bool.and_eq_true] at hB
 refine wpIn_region_any E.C.mixed (anyA_sound hcall hY (q := fun i => decide (i < m)) hQ hP _ _ _ _ _ (let ⟨G,hs⟩ := hs; ⟨G,hs.drew⟩) ?_)
 have hlen : (ops.toList.take m ++ ops.toList.drop m).length = ops.size := by simp
 have := anyA_lex (C := E.C) (call := call) (Y := Y) (ops := ops) (m := m) (K := K) (ops.toList.take m) (ops.toList.drop m) 0 (Array.replicate ops.size false) S
  ⟨by simp,fun p o hp hl => by
   have : p < ops.size := (Array.getElem?_eq_some_iff.1 hp).1
   simp [this] at hl⟩
  (by simp; omega) (fun j => by simp) (by rw [hlen]; exact hB.2) h
 rw [hlen] at this
 exact this
theorem safe_memN_ne {pr : List Nat} {o k : Nat} (h : memN o pr = true) (hk : memN k pr = false) : Nat.beq o k = false := by
 cases hb : Nat.beq o k
 ·rfl
 ·rw [Nat.eq_of_beq_eq_true hb] at h
  rw [h] at hk
  cases hk
mutual
theorem FV.safe_kill {pr : List Nat} {k : Nat} (hk : memN k pr = false) : ∀ {x : FV},x.safe pr = true → x.kill k = x
 | .p _,_ => rfl
 | .agg xs,h => by simp only [FV.safe] at h; simp only [FV.kill,FV.safe_killL hk h]
 | .tup xs,h => by simp only [FV.safe] at h; simp only [FV.kill,FV.safe_killL hk h]
 | .ptr o off,h => by simp only [FV.safe] at h; simp only [FV.kill,safe_memN_ne h hk]
 | .tip t T e xs,h => by simp only [FV.safe] at h; simp only [FV.kill,safe_memN_ne h hk]
 | .full _,_ => rfl
 | .fn f a b,h => by
   simp only [FV.safe] at h
   split at h
   ·rename_i h1
    simp only [FV.kill,FV.safe_killL hk h1,FV.safe_killL hk h]
   ·cases h
 | .yld l,h => by simp only [FV.safe] at h; simp only [FV.kill,safe_memN_ne h hk]
 | .osl o T e,h => by simp only [FV.safe] at h; simp only [FV.kill,safe_memN_ne h hk]
 | .eptr o b off,h => by simp only [FV.safe] at h; simp only [FV.kill,safe_memN_ne h hk]
 | .mapr o,h => by simp only [FV.safe] at h; simp only [FV.kill,safe_memN_ne h hk]
 | .itr o,h => by simp only [FV.safe] at h; simp only [FV.kill,safe_memN_ne h hk]
 | .junk,_ => rfl
theorem FV.safe_killL {pr : List Nat} {k : Nat} (hk : memN k pr = false) : ∀ {xs : List FV},FV.safeL pr xs = true → FV.killL k xs = xs
 | [],_ => rfl
 | x :: xs,h => by
   simp only [FV.safeL] at h
   split at h
   ·rename_i h1
    simp only [FV.killL,FV.safe_kill hk h1,FV.safe_killL hk h]
   ·cases h
end
structure Agree (pr : List Nat) (S S' : ASt) : Prop where
 val : ∀ z : Operand,(S.val z).safe pr = true → S'.val z = S.val z
 objs : ∀ o cells,memN o pr = true → Qv.getObj S.objs o = some cells → ∃ cells',Qv.getObj S'.objs o = some cells' ∧ cells'.length = cells.length ∧ ∀ (i : Nat) (y : FV),cells[i]? = some y → y.safe pr = true → cells'[i]? = some y
theorem Agree.trans {pr : List Nat} {S S' S'' : ASt} (h : Agree pr S S') (h' : Agree pr S' S'') : Agree pr S S'' := by
 refine ⟨fun z hz => ?_,fun o cells ho hc => ?_⟩
 ·have := h.val z hz
  rw [h'.val z (by rw [this]; exact hz),this]
 ·obtain ⟨c1,h1,l1,h2⟩ := h.objs o cells ho hc
  obtain ⟨c2,h3,l2,h4⟩ := h'.objs o c1 ho h1
  exact ⟨c2,h3,l2.trans l1,fun i y hi hy => h4 i y (h2 i y hi hy) hy⟩
theorem kill_val (S : ASt) (k : Nat) (z : Operand) : (S.kill k).val z = (S.val z).kill k ∨ (S.val z).kill k = (S.kill k).val z := by
 left
 cases z with
 | tmp t =>
   simp only [ASt.val,ASt.get,ASt.kill]
   split <;> rfl
 | const v =>
   simp only [ASt.val]
   have h1 : ∀ u : Value,(FV.ofVal1 u).kill k = FV.ofVal1 u := fun u => by
    unfold FV.ofVal1
    split <;> rfl
   unfold FV.ofVal
   split
   ·simp only [FV.kill,FV.killL_eq,List.map_map]
    congr 1
    exact (List.map_congr_left fun u _ => (h1 u)).symm
   ·rfl
   ·exact (h1 _).symm
 | func f => rfl
 | global g =>
   simp only [ASt.val]
   split <;> rfl
theorem getObj_delO {d o : Nat} : ∀ {l : List (Nat × List FV)} {cs : List FV},o ≠ d → Qv.getObj l o = some cs → Qv.getObj (delObj d l) o = some (FV.killL d cs) := by
 intro l
 induction l with
 | nil => intro cs _ h; cases h
 | cons p l ih =>
   obtain ⟨u,i⟩ := p
   intro cs hne h
   simp only [Qv.getObj] at h
   simp only [delObj]
   split at h
   ·rename_i hb
    obtain rfl := Nat.eq_of_beq_eq_true hb
    obtain rfl := Option.some.inj h
    have : Nat.beq u d = false := by
     cases hb : Nat.beq u d
     ·rfl
     ·exact absurd (Nat.eq_of_beq_eq_true hb) hne
    rw [this]
    simp [Qv.getObj]
   ·rename_i hb
    split
    ·exact ih hne h
    ·simp only [Qv.getObj,hb]
     exact ih hne h
theorem Agree.kill {pr : List Nat} (S : ASt) {k : Nat} (hk : memN k pr = false) : Agree pr S (S.kill k) := by
 refine ⟨fun z hz => ?_,fun o cells ho hc => ?_⟩
 ·rcases kill_val S k z with h | h
  ·rw [h,FV.safe_kill hk hz]
  ·rw [← h,FV.safe_kill hk hz]
 ·refine ⟨_,getObj_delO (fun e => by rw [e,hk] at ho; cases ho) hc,by rw [FV.killL_eq,List.length_map],fun i y hi hy => ?_⟩
  rw [FV.killL_eq,List.getElem?_map,hi]
  simp [FV.safe_kill hk hy]
theorem getObj_setNe {ob o : Nat} {c : List FV} : ∀ {l : List (Nat × List FV)},o ≠ ob → Qv.getObj (setObj l ob c) o = Qv.getObj l o := by
 intro l hne
 induction l with
 | nil => rfl
 | cons p l ih =>
   obtain ⟨u,i⟩ := p
   simp only [setObj]
   split
   ·rename_i hb
    obtain rfl := Nat.eq_of_beq_eq_true hb
    have : Nat.beq u o = false := by
     cases hb : Nat.beq u o
     ·rfl
     ·exact absurd (Nat.eq_of_beq_eq_true hb).symm hne
    simp only [Qv.getObj,this]
   ·simp only [Qv.getObj,ih]
theorem Agree.setO {pr : List Nat} (S : ASt) {ob : Nat} (c : List FV) (hk : memN ob pr = false) : Agree pr S (S.setO ob c) :=
 ⟨fun z _ => by cases z <;> rfl,fun o cells ho hc => ⟨cells,by
  show Qv.getObj (setObj S.objs ob c) o = _
  rw [getObj_setNe (fun e => by rw [e,hk] at ho; cases ho)]; exact hc,rfl,fun i y hi _ => hi⟩⟩
theorem Agree.consO {pr : List Nat} (S : ASt) {d : Nat} (c : List FV) (hk : memN d pr = false) : Agree pr S { S with objs := (d,c) :: S.objs } :=
 ⟨fun z _ => by cases z <;> rfl,fun o cells ho hc => ⟨cells,by
  have : Nat.beq d o = false := by
   cases hb : Nat.beq d o
   ·rfl
   ·rw [Nat.eq_of_beq_eq_true hb,ho] at hk; cases hk
  simp only [Qv.getObj,this]; exact hc,rfl,fun i y hi _ => hi⟩⟩
theorem Agree.bld {pr : List Nat} (S : ASt) (b : List (Nat × List UInt8)) : Agree pr S { S with blds := b } :=
 ⟨fun z _ => by cases z <;> rfl,fun o cells ho hc => ⟨cells,hc,rfl,fun i y hi _ => hi⟩⟩
def YieldsC (C : Ctx) (ops : Array Oper) (pr : List Nat) (o : Oper) (x : FV) (S : ASt) : Prop :=
 (wantedA ops S o = some true ∧ (evVal C S o.op fun u => u = x) ∧ safeC pr S o.op x = true) ∨ (wantedA ops S o = some false ∧ x = undefF)
theorem YieldsC.yA {pr : List Nat} {x : FV} (h : YieldsC C ops pr o x S) : YieldsA C ops o x S := h.imp (fun h => ⟨h.1,h.2.1⟩) id
theorem safeC_spec {pr : List Nat} {op : Op} {x : FV} (h : safeC pr S op x = true) : (∃ zs,opsL op = some zs ∧ ∀ z,z ∈ zs → (S.val z).safe pr = true) ∧ x.safe pr = true := by
 unfold safeC at h
 split at h
 ·cases h
 ·rename_i zs hz
  split at h
  ·rename_i hs
   refine ⟨⟨zs,hz,?_⟩,h⟩
   clear hz
   induction zs with
   | nil => simp
   | cons y ys ih =>
     simp only [safeVals] at hs
     split at hs
     ·rename_i hy
      intro z hz
      rcases List.mem_cons.1 hz with rfl | hz
      ·exact hy
      ·exact ih hs z hz
     ·cases hs
  ·cases h
theorem safeC_mk {pr : List Nat} {op : Op} {x : FV} {zs : List Operand} (h : opsL op = some zs) (hz : ∀ z,z ∈ zs → (S.val z).safe pr = true) (hx : x.safe pr = true) : safeC pr S op x = true := by
 unfold safeC
 rw [h]
 have : safeVals pr S zs = true := by
  clear h
  induction zs with
  | nil => rfl
  | cons y ys ih =>
    simp only [safeVals,hz y List.mem_cons_self]
    exact ih fun z h => hz z (List.mem_cons_of_mem _ h)
 simp only [this]
 exact hx
theorem YieldsC.safe {pr : List Nat} {x : FV} (h : YieldsC C ops pr o x S) : x.safe pr = true := by
 rcases h with h | ⟨-,rfl⟩
 ·exact (safeC_spec h.2.2).2
 ·rfl
theorem opsL_sub {op : Op} {zs : List Operand} (h : opsL op = some zs) : ∀ z,z ∈ zs → z ∈ op.operands := by
 intro z hz
 unfold opsL at h
 split at h
 all_goals cases h
 all_goals simp [Op.operands,Call.operands] at hz ⊢
 all_goals exact hz
theorem opsL_all {op : Op} {zs : List Operand} (h : opsL op = some zs) : ∀ z,z ∈ op.operands → z ∈ zs := by
 intro z hz
 unfold opsL at h
 split at h
 all_goals cases h
 all_goals simp [Op.operands,Call.operands] at hz ⊢
 all_goals exact hz
theorem safeC_put {pr : List Nat} {x : FV} {dst : Option Nat} {v : FV} (h : ∀ d,dst = some d → d ∉ o.looksAt ops) (hs : safeC pr S o.op x = true) : safeC pr (S.put dst v) o.op x = true := by
 obtain ⟨⟨zs,h1,h2⟩,h3⟩ := safeC_spec hs
 refine safeC_mk h1 (fun z hz => ?_) h3
 rw [ASt.put_val_ne fun d hd hzd => h d hd (by
  subst hzd
  exact List.mem_append_left _ (List.mem_filterMap.2 ⟨.tmp d,by simpa using opsL_sub h1 _ hz,rfl⟩))]
 exact h2 z hz
theorem safeC_unput {pr : List Nat} {x : FV} {dst : Option Nat} {v : FV} (h : ∀ d,dst = some d → d ∉ o.looksAt ops) (hs : safeC pr (S.put dst v) o.op x = true) : safeC pr S o.op x = true := by
 obtain ⟨⟨zs,h1,h2⟩,h3⟩ := safeC_spec hs
 refine safeC_mk h1 (fun z hz => ?_) h3
 have := h2 z hz
 rw [ASt.put_val_ne fun d hd hzd => h d hd (by
  subst hzd
  exact List.mem_append_left _ (List.mem_filterMap.2 ⟨.tmp d,by simpa using opsL_sub h1 _ hz,rfl⟩))] at this
 exact this
theorem YieldsC.put {pr : List Nat} {x : FV} (hy : YieldsC C ops pr o x S) {dst : Option Nat} {v : FV} (h : ∀ d,dst = some d → d ∉ o.looksAt ops) : YieldsC C ops pr o x (S.put dst v) := by
 unfold YieldsC at *
 rw [wantedA_put h,evVal_put_ne h]
 exact hy.imp (fun q => ⟨q.1,q.2.1,safeC_put h q.2.2⟩) id
theorem YieldsC.unput {pr : List Nat} {x : FV} {dst : Option Nat} {v : FV} (hy : YieldsC C ops pr o x (S.put dst v)) (h : ∀ d,dst = some d → d ∉ o.looksAt ops) : YieldsC C ops pr o x S := by
 unfold YieldsC at *
 rw [wantedA_put h,evVal_put_ne h] at hy
 exact hy.imp (fun q => ⟨q.1,q.2.1,safeC_unput h q.2.2⟩) id
theorem takeN_agree {pr : List Nat} : ∀ (n : Nat) {xs xs' cs : List FV},takeN n xs = some cs → FV.safeL pr cs = true → (∀ (i : Nat) (y : FV),xs[i]? = some y → y.safe pr = true → xs'[i]? = some y) → takeN n xs' = some cs
 | 0,xs,xs',cs,h,_,_ => h
 | n + 1,[],xs',cs,h,_,_ => by simp [takeN] at h
 | n + 1,x :: xs,xs',cs,h,hs,ha => by
   simp only [takeN] at h
   split at h
   ·rename_i ys hys
    obtain rfl := Option.some.inj h
    simp only [FV.safeL] at hs
    split at hs
    ·rename_i hx
     have h0 := ha 0 x rfl hx
     cases xs' with
     | nil => simp at h0
     | cons x' xs' =>
       simp at h0
       subst h0
       have := takeN_agree n (xs := xs) (xs' := xs') hys hs fun i y hi hy => by simpa using ha (i + 1) y (by simpa using hi) hy
       simp only [takeN,this]
    ·cases hs
   ·cases h
theorem dropN_get {α : Type} : ∀ (n : Nat) (xs : List α) (i : Nat),(dropN n xs)[i]? = xs[n + i]?
 | 0,xs,i => by simp [dropN]
 | n + 1,[],i => by simp [dropN]
 | n + 1,x :: xs,i => by
   rw [dropN,dropN_get n xs i,show n + 1 + i = (n + i) + 1 by omega]
   simp
theorem evLoad_agree {pr : List Nat} {S' : ASt} (h : Agree pr S S') {t : TypeId} {v x : FV} (hv : v.safe pr = true) (hx : x.safe pr = true) (he : evLoad C S.objs t v fun u => u = x) : evLoad C S'.objs t v fun u => u = x := by
 unfold evLoad at he ⊢
 cases hi : tabGet C.tab t with
 | none => rw [hi] at he; exact he.elim
 | some i =>
   rw [hi] at he
   simp only at he ⊢
   cases v with
   | ptr o off =>
     simp only at he ⊢
     cases hc : Qv.getObj S.objs o with
     | none => rw [hc] at he; exact he.elim
     | some cells =>
       rw [hc] at he
       obtain ⟨cells',h1,hl,h2⟩ := h.objs o cells hv hc
       rw [h1]
       simp only at he ⊢
       have hd : ∀ (i : Nat) (y : FV),(dropN off cells)[i]? = some y → y.safe pr = true → (dropN off cells')[i]? = some y := fun i y hi hy => by
        rw [dropN_get] at hi ⊢
        exact h2 _ y hi hy
       cases hag : i.shape.isAgg with
       | true =>
         rw [hag] at he
         simp only at he ⊢
         cases hcs : takeN i.size (dropN off cells) with
         | none => rw [hcs] at he; exact he.elim
         | some cs =>
           rw [hcs] at he
           simp only at he
           subst he
           rw [takeN_agree _ hcs hx hd]
       | false =>
         rw [hag] at he
         simp only at he ⊢
         cases hys : dropN off cells with
         | nil => rw [hys] at he; exact he.elim
         | cons y ys =>
           rw [hys] at he
           simp only at he
           subst he
           have := hd 0 y (by rw [hys]; rfl) hx
           cases hq : dropN off cells' with
           | nil => rw [hq] at this; simp at this
           | cons z zs =>
             rw [hq] at this
             simpa using this
   | eptr o base off =>
     simp only at he ⊢
     cases hc : Qv.getObj S.objs o with
     | none => rw [hc] at he; exact he.elim
     | some cells =>
       rw [hc] at he
       obtain ⟨cells',h1,hl,h2⟩ := h.objs o cells hv hc
       rw [h1]
       simp only at he ⊢
       obtain ⟨A,ys,B,rfl,hA,he⟩ := he
       have hlen : cells'.length = A.length + (ys.length + B.length) := by simpa using hl
       refine ⟨cells'.take A.length,(cells'.drop A.length).take ys.length,(cells'.drop A.length).drop ys.length,by rw [List.take_append_drop,List.take_append_drop],by rw [List.length_take,← hA]; omega,?_⟩
       have hd : ∀ (i : Nat) (y : FV),(dropN off ys)[i]? = some y → y.safe pr = true → (dropN off ((cells'.drop A.length).take ys.length))[i]? = some y := fun i y hi hy => by
        rw [dropN_get] at hi ⊢
        have hlt := (List.getElem?_eq_some_iff.1 hi).1
        rw [List.getElem?_take_of_lt hlt,List.getElem?_drop]
        refine h2 _ y ?_ hy
        rw [List.getElem?_append_right (by omega),List.getElem?_append_left (by omega),← hi]
        congr 1
        omega
       cases hag : i.shape.isAgg with
       | true =>
         rw [hag] at he
         simp only at he ⊢
         cases hcs : takeN i.size (dropN off ys) with
         | none => rw [hcs] at he; exact he.elim
         | some cs =>
           rw [hcs] at he
           simp only at he
           subst he
           rw [takeN_agree _ hcs hx hd]
       | false =>
         rw [hag] at he
         simp only at he ⊢
         cases hys : dropN off ys with
         | nil => rw [hys] at he; exact he.elim
         | cons y zs =>
           rw [hys] at he
           simp only at he
           subst he
           have := hd 0 y (by rw [hys]; rfl) hx
           cases hq : dropN off ((cells'.drop A.length).take ys.length) with
           | nil => rw [hq] at this; simp at this
           | cons z zs =>
             rw [hq] at this
             simpa using this
   | p y => cases y <;> first | exact he | exact he.elim
   | _ => exact he.elim
theorem evIndexAddr_agree {pr : List Nat} {S' : ASt} (h : Agree pr S S') {t : TypeId} {v i : FV} {K : FV → Prop} (hv : v.safe pr = true) (he : evIndexAddr C S.objs t v i K) : evIndexAddr C S'.objs t v i K := by
 unfold evIndexAddr at he ⊢
 split at he
 ·rename_i k n
  split at he
  ·split at he
   ·exact he.elim
   ·rename_i j hj
    try simp only [hj]
    split at he
    ·rename_i o T esz
     split at he
     ·rename_i cells hc hb
      obtain ⟨cells',h1,hl,-⟩ := h.objs o cells hv hc
      rw [h1]
      simp only [hb]
      obtain ⟨m,base,e1,e2,e3,e4⟩ := he
      exact ⟨m,base,e1,e2,by omega,e4⟩
     ·exact he.elim
    ·exact he
  ·exact he
  ·exact he
 ·exact he
theorem evBuiltinV_agree {pr : List Nat} {S' : ASt} (h : Agree pr S S') {b : Builtin} {args : List FV} {types : List TypeId} {K : FV → Prop} (hv : ∀ v,v ∈ args → v.safe pr = true) (he : evBuiltinV C S.objs b args types K) : evBuiltinV C S'.objs b args types K := by
 unfold evBuiltinV at he ⊢
 split at he
 ·split at he
  ·split at he
   ·exact he
   ·exact he
   ·split at he
    ·rename_i o T esz
     split at he
     ·rename_i cells hc
      obtain ⟨cells',h1,hl,-⟩ := h.objs o cells (hv (.osl o T esz) (by simp)) hc
      rw [h1]
      obtain ⟨n,e1,e2⟩ := he
      exact ⟨n,by omega,e2⟩
     ·exact he.elim
    ·exact he
   ·exact he
  ·exact he
 ·exact he
 ·exact he
 ·exact he
theorem evVal_agree {pr : List Nat} {S' : ASt} (h : Agree pr S S') {op : Op} {x : FV} (hs : safeC pr S op x = true) (he : evVal C S op fun u => u = x) : evVal C S' op fun u => u = x := by
 obtain ⟨⟨zs,h1,h2⟩,h3⟩ := safeC_spec hs
 have hv : ∀ z,z ∈ zs → S'.val z = S.val z := fun z hz => h.val z (h2 z hz)
 have gen : ∀ S2 : ASt,(∀ z,z ∈ op.operands → S2.val z = S.val z) → S2.objs = S.objs → evVal C S2 op (fun u => u = x) := fun S2 a b => by rw [evVal_congr a b (fun _ _ _ _ e => by subst e; cases h1) (fun _ e => by subst e; cases h1)]; exact he
 by_cases hl : ∃ t a,op = .load t a
 ·obtain ⟨t,a,rfl⟩ := hl
  simp only [opsL,Option.some.injEq] at h1
  subst h1
  have ha := h2 a (by simp)
  simp only [evVal] at he ⊢
  rw [hv a (by simp)]
  exact evLoad_agree h ha h3 he
 by_cases hl2 : ∃ t a i,op = .indexAddr t a i
 ·obtain ⟨t,a,i,rfl⟩ := hl2
  simp only [opsL,Option.some.injEq] at h1
  subst h1
  have ha := h2 a (by simp)
  simp only [evVal] at he ⊢
  rw [hv a (by simp),hv i (by simp)]
  exact evIndexAddr_agree h ha he
 by_cases hl3 : ∃ b args types,op = .call ⟨.builtin b,args,types⟩
 ·obtain ⟨b,args,types,rfl⟩ := hl3
  simp only [opsL,Option.some.injEq] at h1
  subst h1
  simp only [evVal] at he ⊢
  have ha : args.toList.map S'.val = args.toList.map S.val := List.map_congr_left fun z hz => hv z hz
  rw [ha]
  exact evBuiltinV_agree h (fun v hv' => by
   obtain ⟨z,hz,rfl⟩ := List.mem_map.1 hv'
   exact h2 z hz) he
 ·have hall := opsL_all h1
  have := gen { S' with objs := S.objs } (fun z hz => by
   have := hv z (hall z hz)
   cases z <;> exact this) rfl
  cases op
  case slice t x lo hi mx =>
   cases mx with
   | none => exact this
   | some m => cases h1
  case load t a => exact absurd ⟨t,a,rfl⟩ hl
  case indexAddr t a i => exact absurd ⟨t,a,i,rfl⟩ hl2
  case call c =>
   obtain ⟨callee,args,types⟩ := c
   cases callee with
   | builtin b => exact absurd ⟨b,args,types,rfl⟩ hl3
   | _ => exact this
  case build t parts =>
   simp only [opsL,Option.some.injEq] at h1
   subst h1
   exact (evVal_build (fun p hp => hv p.2 (List.mem_map_of_mem hp))).mpr he
  case buildSlice t len parts =>
   simp only [opsL,Option.some.injEq] at h1
   subst h1
   exact (evVal_buildSlice (fun p hp => hv p.2 (List.mem_map_of_mem hp))).mpr he
  all_goals exact this
theorem wantedA_agree {pr : List Nat} {S' : ASt} (h : Agree pr S S') {b : Bool} (hw : wantedA ops S o = some b) : wantedA ops S' o = some b := by
 unfold wantedA at *
 split at hw
 ·exact hw
 ·rename_i j want hg
  split at hw
  ·cases hw
  ·rename_i d hd
   have key : ∀ y : AV,S.get d = .p y → S'.get d = .p y := fun y hy => by
    have := h.val (.tmp d) (by show (S.get d).safe pr = true; rw [hy]; rfl)
    exact this.trans hy
   split at hw
   ·rename_i c hc
    rw [key _ hc]; exact hw
   ·rename_i hc
    rw [key _ hc]; exact hw
   ·cases hw
theorem YieldsC.agree {pr : List Nat} {S' : ASt} (h : Agree pr S S') {x : FV} (hy : YieldsC C ops pr o x S) : YieldsC C ops pr o x S' := by
 rcases hy with ⟨h1,h2,h3⟩ | ⟨h1,h2⟩
 ·refine .inl ⟨wantedA_agree h h1,evVal_agree h h3 h2,?_⟩
  obtain ⟨⟨zs,q1,q2⟩,q3⟩ := safeC_spec h3
  exact safeC_mk q1 (fun z hz => by rw [h.val z (q2 z hz)]; exact q2 z hz) q3
 ·exact .inr ⟨wantedA_agree h h1,h2⟩
def cStep (C : Ctx) (ops : Array Oper) (pr : List Nat) (o : Oper) (K : ASt → Prop) (S : ASt) : Prop := ∃ x,YieldsC C ops pr o x S ∧ K (S.put o.dst x)
def hStep (C : Ctx) (call : CallH) (Y : Yld) (ops : Array Oper) (pr : List Nat) (o : Oper) (K : ASt → Prop) (S : ASt) : Prop :=
 match wantedA ops S o with
 | some true => hardSafe pr S o.dst o.op = true ∧ evOp C call Y o K S
 | some false => K (S.put o.dst undefF)
 | none => False
theorem evC1_spec {pr : List Nat} {K : ASt → Prop} (h : evC1 C ops pr o K S) : cStep C ops pr o K S := by
 unfold evC1 at h
 unfold cStep YieldsC wantedA
 split at h
 ·rename_i hg
  rw [hg]
  obtain ⟨v,h1,h2,h3⟩ := h
  exact ⟨v,.inl ⟨by first | rfl | trivial,h1,h2⟩,h3⟩
 ·rename_i j want hg
  rw [hg]
  split at h
  ·exact h.elim
  ·rename_i d hd
   simp only [hd]
   split at h
   ·rename_i b hb
    rw [sameB_eq] at h
    simp only [hb]
    cases hbw : (b == want) with
    | true =>
      rw [hbw] at h
      obtain ⟨v,h1,h2,h3⟩ := h
      exact ⟨v,.inl ⟨by first | rfl | trivial,h1,h2⟩,h3⟩
    | false => rw [hbw] at h; exact ⟨_,.inr ⟨by first | rfl | trivial,rfl⟩,h⟩
   ·rename_i hb
    simp only [hb]
    exact ⟨_,.inr ⟨by first | rfl | trivial,rfl⟩,h⟩
   ·exact h.elim
theorem evH1_spec {pr : List Nat} {K : ASt → Prop} (h : evH1 C call Y ops pr o K S) : hStep C call Y ops pr o K S := by
 unfold evH1 at h
 unfold hStep wantedA
 split at h
 ·rename_i hg
  rw [hg]
  exact h
 ·rename_i j want hg
  rw [hg]
  split at h
  ·exact h.elim
  ·rename_i d hd
   simp only [hd]
   split at h
   ·rename_i b hb
    rw [sameB_eq] at h
    simp only [hb]
    cases hbw : (b == want) with
    | true => rw [hbw] at h; exact h
    | false => rw [hbw] at h; exact h
   ·rename_i hb
    simp only [hb]
    exact h
   ·exact h.elim
theorem put_kill {dst : Option Nat} {x : FV} {k : Nat} (hx : x.kill k = x) : (S.put dst x).kill k = (S.kill k).put dst x := by
 cases dst with
 | none => rfl
 | some d =>
   simp only [ASt.put,ASt.kill]
   congr 1
   funext i
   split
   ·exact hx
   ·rfl
theorem hStep_put {pr : List Nat} {oi oj : Oper} {x : FV} (hap : oi.apart ops oj = true) {K : ASt → Prop} (hy : YieldsC C ops pr oi x S) (h : hStep C call Y ops pr oj K (S.put oi.dst x)) :
 hStep C call Y ops pr oj (fun S1 => YieldsC C ops pr oi x S1 ∧ K (S1.put oi.dst x)) S := by
 obtain ⟨h1,h2,h3⟩ := Oper.apart_spec hap
 have hxs := hy.safe
 unfold hStep at *
 rw [wantedA_put h1] at h
 split at h
 ·obtain ⟨hh,he⟩ := h
  have hval : ∀ z,z ∈ oj.op.operands → (S.put oi.dst x).val z = S.val z := fun z hz => ASt.put_val_ne fun d hd hzd => h1 d hd (by
   subst hzd
   exact List.mem_append_left _ (List.mem_filterMap.2 ⟨.tmp d,by simpa using hz,rfl⟩))
  have hoff : (S.put oi.dst x).off = S.off := by cases oi.dst <;> rfl
  have hobj : (S.put oi.dst x).objs = S.objs := ASt.put_objs
  have hbl : (S.put oi.dst x).blds = S.blds := by cases oi.dst <;> rfl
  have fin : ∀ (S1 S2 : ASt) (v : FV),Agree pr S S1 → S2 = S1.put oi.dst x → K (S2.put oj.dst v) → YieldsC C ops pr oi x (S1.put oj.dst v) ∧ K ((S1.put oj.dst v).put oi.dst x) := fun S1 S2 v ha e hk => by
   refine ⟨(hy.agree ha).put h3,?_⟩
   rw [← ASt.put_comm h2,← e]
   exact hk
  cases hop : oj.op with
  | alloc t =>
    rw [hop] at hh
    simp only [evOp,hop] at he ⊢
    simp only [hardSafe] at hh ⊢
    split at he
    ·rename_i d inf hd hinf
     rw [hd] at hh
     rw [hoff] at hh
     simp only [Bool.not_eq_true'] at hh
     simp only [hd,hinf]
     refine ⟨by simpa using hh,?_⟩
     have hk := FV.safe_kill hh hxs
     split at he
     ·rename_i hb hz
      try simp only [hb,hz]
      have := fin { S.kill (S.off + d) with blds := (S.off + d,[]) :: delB (S.off + d) S.blds } { (S.put oi.dst x).kill (S.off + d) with blds := (S.off + d,[]) :: delB (S.off + d) S.blds } (.ptr (S.off + d) 0) ((Agree.kill S hh).trans (Agree.bld _ _)) (by
       rw [put_kill hk]
       cases oi.dst <;> rfl)
      rw [hd] at this
      rw [newBldK_eq] at he ⊢
      unfold newBld at *
      rw [hoff,hbl] at he
      exact ⟨he.1,this he.2⟩
     ·rename_i hno
      rw [forceL_eq,newObjK_eq] at he
      rw [forceL_eq,newObjK_eq]
      unfold newObj at *
      rw [hoff,hobj] at he
      have := fin { S.kill (S.off + d) with objs := (S.off + d,FV.killL (S.off + d) (inf.zero.map FV.ofVal1)) :: delObj (S.off + d) S.objs } { (S.put oi.dst x).kill (S.off + d) with objs := (S.off + d,FV.killL (S.off + d) (inf.zero.map FV.ofVal1)) :: delObj (S.off + d) S.objs } (.ptr (S.off + d) 0) ((Agree.kill S hh).trans (Agree.consO (S.kill (S.off + d)) _ hh)) (by
       rw [put_kill hk]
       cases oi.dst <;> rfl)
      rw [hd] at this
      exact ⟨he.1,this he.2⟩
    ·exact he.elim
  | box t z =>
    rw [hop] at hh hval
    have hz := hval z (by simp [Op.operands])
    simp only [evOp,hop,hz] at he ⊢
    simp only [hardSafe] at hh ⊢
    split at he
    ·rename_i d inf hd hinf
     rw [hd] at hh
     rw [hoff] at hh
     simp only [Bool.not_eq_true'] at hh
     simp only [hd,hinf]
     refine ⟨by simpa using hh,?_⟩
     have hk := FV.safe_kill hh hxs
     split at he
     ·rename_i hb
      try simp only [hb]
      split at he
      ·rename_i hb2
       try simp only [hb2]
       rw [forceL_eq,newObjK_eq] at he ⊢
       unfold newObj at *
       rw [hoff,hobj] at he
       have := fin { S.kill (S.off + d) with objs := (S.off + d,FV.killL (S.off + d) (S.val z).cells) :: delObj (S.off + d) S.objs } { (S.put oi.dst x).kill (S.off + d) with objs := (S.off + d,FV.killL (S.off + d) (S.val z).cells) :: delObj (S.off + d) S.objs } (.ptr (S.off + d) 0) ((Agree.kill S hh).trans (Agree.consO (S.kill (S.off + d)) _ hh)) (by
        rw [put_kill hk]
        cases oi.dst <;> rfl)
       rw [hd] at this
       exact ⟨he.1,this he.2⟩
      ·exact he.elim
     ·exact he.elim
    ·exact he.elim
  | store t p z =>
    rw [hop] at hh hval
    have hp := hval p (by simp [Op.operands])
    have hz := hval z (by simp [Op.operands])
    simp only [evOp,hop,hz,hp,hobj] at he ⊢
    simp only [hardSafe,hp] at hh ⊢
    split at he
    ·rename_i inf ob off hinf hob
     rw [hob] at hh
     simp only [Bool.not_eq_true'] at hh
     simp only [hinf,hob]
     refine ⟨by simpa using hh,?_⟩
     split at he
     ·exact he.elim
     ·rename_i cells hc
      try simp only [hc]
      split at he
      ·rename_i hb
       try simp only [hb]
       split at he
       ·rename_i hb2
        try simp only [hb2]
        split at he
        ·rename_i cs hcs
         try simp only [hcs]
         rw [forceL_eq] at he ⊢
         have := fin (S.setO ob cs) ((S.put oi.dst x).setO ob cs) (.p (.tup [])) (Agree.setO S cs hh) (by
          unfold ASt.setO
          cases oi.dst <;> rfl)
         exact this he
        ·exact he.elim
       ·exact he.elim
      ·exact he.elim
    ·rename_i inf ob base off hinf hob
     rw [hob] at hh
     simp only [Bool.not_eq_true'] at hh
     simp only [hinf,hob]
     refine ⟨by simpa using hh,?_⟩
     split at he
     ·exact he.elim
     ·rename_i cells hc
      try simp only [hc]
      split at he
      ·rename_i hb
       try simp only [hb]
       split at he
       ·rename_i hb2
        try simp only [hb2]
        obtain ⟨A,ys,B,g1,g2,he⟩ := he
        refine ⟨A,ys,B,g1,g2,?_⟩
        split at he
        ·rename_i cs hcs
         try simp only [hcs]
         rw [forceL_eq] at he ⊢
         obtain ⟨cs',g3,he⟩ := he
         have := fin (S.setO ob cs') ((S.put oi.dst x).setO ob cs') (.p (.tup [])) (Agree.setO S cs' hh) (by
          unfold ASt.setO
          cases oi.dst <;> rfl)
         exact ⟨cs',g3,this he⟩
        ·exact he.elim
       ·exact he.elim
      ·exact he.elim
    ·exact he.elim
  | buildSlice t len parts =>
    rw [hop] at hh hval
    have hbs : ∀ K',evBuildSlice C (S.put oi.dst x) t len parts.toList K' = evBuildSlice C S t len parts.toList K' := fun K' => by
     have hpp : ∀ p,p ∈ parts.toList → (S.put oi.dst x).val p.2 = S.val p.2 := fun p hp => hval p.2 (by simp [Op.operands]; exact ⟨p.1,by simpa using hp⟩)
     simp only [evBuildSlice]
     split
     ·split
      ·rfl
      ·split
       ·rfl
       ·rw [placeElems_congr _ _ hpp]
     ·rfl
    have hbo : ∀ e K',evOpenCells C (S.put oi.dst x) e len parts.toList K' = evOpenCells C S e len parts.toList K' := fun e K' => by
     have hpp : ∀ p,p ∈ parts.toList → (S.put oi.dst x).val p.2 = S.val p.2 := fun p hp => hval p.2 (by simp [Op.operands]; exact ⟨p.1,by simpa using hp⟩)
     simp only [evOpenCells]
     split
     ·rfl
     ·split
      ·rw [placeElems_congr _ _ hpp]
      ·rfl
    have monoO : ∀ {e : TypeId} {K1 K2 : List FV → Nat → Prop},(∀ v z,K1 v z → K2 v z) → evOpenCells C S e len parts.toList K1 → evOpenCells C S e len parts.toList K2 := fun {e K1 K2} hm hq => by
     unfold evOpenCells at *
     split at hq
     ·exact hq.elim
     ·split at hq
      ·split at hq
       ·split at hq
        ·exact hq.elim
        ·rw [forceL_eq] at hq ⊢
         exact hm _ _ hq
       ·exact hq.elim
      ·exact hq.elim
    simp only [evOp,hop,hbs,evOpenSlice,hbo] at he ⊢
    simp only [hardSafe] at hh ⊢
    split at he
    ·rename_i d b1 b2 e b3 hd hinf
     rw [hd] at hh
     rw [hoff] at hh
     simp only [Bool.not_eq_true'] at hh
     simp only [hd,hinf]
     refine ⟨by simpa using hh,?_⟩
     have hk := FV.safe_kill hh hxs
     split at he
     ·rename_i hopn
      try simp only [hopn]
      refine monoO (fun cs z hv => ?_) he
      rw [withNmL_eq] at hv ⊢
      rw [hoff,hobj] at hv
      have := fin { S.kill (S.off + d) with objs := (S.off + d,FV.killL (S.off + d) cs) :: delObj (S.off + d) S.objs } { (S.put oi.dst x).kill (S.off + d) with objs := (S.off + d,FV.killL (S.off + d) cs) :: delObj (S.off + d) S.objs } (.osl (S.off + d) e z) ((Agree.kill S hh).trans (Agree.consO (S.kill (S.off + d)) _ hh)) (by
       rw [put_kill hk]
       cases oi.dst <;> rfl)
      rw [hd] at this
      exact ⟨hv.1,this hv.2⟩
     rename_i hopn
     try simp only [hopn]
     have mono : ∀ {K1 K2 : FV → Prop},(∀ v,K1 v → K2 v) → evBuildSlice C S t len parts.toList K1 → evBuildSlice C S t len parts.toList K2 := fun {K1 K2} hm hq => by
      unfold evBuildSlice at *
      split at hq
      ·split at hq
       ·exact hq.elim
       ·split at hq
        ·exact hq.elim
        ·split at hq
         ·split at hq
          ·exact hq.elim
          ·split at hq
           ·exact hm _ hq
           ·exact hq.elim
         ·exact hq.elim
      ·exact hq.elim
     refine mono (fun v hv => ?_) he
     split at hv
     ·rename_i xs
      split at hv
      ·exact hv.elim
      ·rename_i j hj
       try simp only [hj]
       have := fin (S.kill (S.off + d)) ((S.put oi.dst x).kill (S.off + d)) (.tip (S.off + d) e j.size xs) (Agree.kill S hh) (put_kill hk)
       rw [hd] at this
       rw [withNm_eq] at hv ⊢
       rw [hoff] at hv
       exact this hv
     ·exact hv.elim
    ·exact he.elim
  | call c =>
    obtain ⟨callee,args,types⟩ := c
    cases callee with
    | value f => rw [hop] at hh; simp [hardSafe] at hh
    | invoke r m => rw [hop] at hh; simp [hardSafe] at hh
    | builtin b =>
      cases b <;> try (rw [hop] at hh; simp [hardSafe] at hh; done)
      rw [hop] at hh hval
      have hargs : args.toList.map (S.put oi.dst x).val = args.toList.map S.val := List.map_congr_left fun z hz => hval z (by simp [Op.operands,Call.operands]; simpa using hz)
      simp only [evOp,hop,hargs] at he ⊢
      simp only [hardSafe,hargs] at hh ⊢
      split at he
      ·rename_i a b t u d ha ht hd
       rw [ha,hd] at hh
       simp only at hh
       rw [hoff] at hh
       simp only [ha,ht,hd]
       refine ⟨by simpa using hh,?_⟩
       split at he
       ·rename_i o2 T2 e2
        unfold evAppO at he ⊢
        split at he
        ·rename_i b1 b2 e b3 b4 hti hui
         simp only [hti,hui]
         split at he
         ·exact he.elim
         ·rename_i hli
          try simp only [hli]
          split at he
          ·exact he.elim
          ·rename_i j hj
           try simp only [hj]
           split at he
           ·rename_i v1 v2 v3
            try simp only [v1,v2,v3]
            rw [hobj] at he
            split at he
            ·exact he.elim
            ·rename_i ys hys
             try simp only [hys]
             cases a with
             | osl k T esz =>
               simp only at hh he ⊢
               simp only [Bool.not_eq_true'] at hh
               have hk := FV.safe_kill hh hxs
               split at he
               ·rename_i e1 e2 e3
                try simp only [e1,e2,e3]
                split at he
                ·exact he.elim
                ·rename_i xs hxs'
                 try simp only [hxs']
                 obtain ⟨n,m,q1,q2,q3,q4,zs,q5,q6⟩ := he
                 have := fin { S.kill k with objs := (k,zs) :: delObj k S.objs } { (S.put oi.dst x).kill k with objs := (k,zs) :: delObj k S.objs } (.osl k e j.size) ((Agree.kill S hh).trans (Agree.consO (S.kill k) _ hh)) (by
                  rw [put_kill hk]
                  cases oi.dst <;> rfl)
                 rw [hd] at this
                 exact ⟨n,m,q1,q2,q3,q4,zs,q5,this q6⟩
               ·exact he.elim
             | full xs =>
               simp only at hh
               simp only [Bool.not_eq_true'] at hh
               have hk := FV.safe_kill hh hxs
               cases xs with
               | nil =>
                 simp only at he ⊢
                 obtain ⟨m,q1,q2,q3,q4,q5⟩ := he
                 rw [withNmL_eq,hoff] at q5
                 rw [withNmL_eq]
                 obtain ⟨q8,zs,q6,q7⟩ := q5
                 have := fin { S.kill (S.off + d) with objs := (S.off + d,zs) :: delObj (S.off + d) S.objs } { (S.put oi.dst x).kill (S.off + d) with objs := (S.off + d,zs) :: delObj (S.off + d) S.objs } (.osl (S.off + d) e j.size) ((Agree.kill S hh).trans (Agree.consO (S.kill (S.off + d)) _ hh)) (by
                  rw [put_kill hk]
                  cases oi.dst <;> rfl)
                 rw [hd] at this
                 exact ⟨m,q1,q2,q3,q4,q8,zs,q6,this q7⟩
               | cons z zs => exact he.elim
             | _ => exact he.elim
           ·exact he.elim
        ·exact he.elim
       unfold evAppend at he ⊢
       split at he
       ·rename_i b1 b2 e b3 b4 hti hui
        simp only [hti,hui]
        split at he
        ·exact he.elim
        ·rename_i hli
         try simp only [hli]
         split at he
         ·exact he.elim
         ·rename_i j hj
          try simp only [hj]
          split at he
          ·exact he.elim
          ·rename_i ys hys
           try simp only [hys]
           cases a with
           | tip k T esz xs =>
             simp only at hh he ⊢
             simp only [Bool.not_eq_true'] at hh
             have hk := FV.safe_kill hh hxs
             split at he
             ·rename_i e1 e2 e3
              try simp only [e1,e2,e3]
              obtain ⟨q1,q2,q3,zs,q4,q5⟩ := he
              have := fin (S.kill k) ((S.put oi.dst x).kill k) (.tip k T esz zs) (Agree.kill S hh) (put_kill hk)
              rw [hd] at this
              exact ⟨q1,q2,q3,zs,q4,this q5⟩
             ·exact he.elim
           | full xs =>
             simp only at hh
             simp only [Bool.not_eq_true'] at hh
             have hk := FV.safe_kill hh hxs
             cases xs with
             | nil =>
               simp only at he ⊢
               split at he
               ·rename_i e1
                try simp only [e1]
                obtain ⟨q1,q2,q3⟩ := he
                rw [withNm_eq,hoff] at q3
                rw [withNm_eq]
                have := fin (S.kill (S.off + d)) ((S.put oi.dst x).kill (S.off + d)) (.tip (S.off + d) e j.size ys) (Agree.kill S hh) (put_kill hk)
                rw [hd] at this
                exact ⟨q1,q2,this q3⟩
               ·exact he.elim
             | cons z zs =>
               simp only at he ⊢
               split at he
               ·rename_i e1
                try simp only [e1]
                obtain ⟨q1,q2,q3,q4,q5⟩ := he
                rw [withNm_eq,hoff] at q5
                rw [withNm_eq]
                obtain ⟨zs',q6,q7⟩ := q5
                have := fin (S.kill (S.off + d)) ((S.put oi.dst x).kill (S.off + d)) (.tip (S.off + d) e j.size zs') (Agree.kill S hh) (put_kill hk)
                rw [hd] at this
                exact ⟨q1,q2,q3,q4,zs',q6,this q7⟩
               ·exact he.elim
           | osl k T esz =>
             simp only at hh he ⊢
             simp only [Bool.not_eq_true'] at hh
             have hk := FV.safe_kill hh hxs
             rw [hobj] at he
             split at he
             ·rename_i e1 e2 e3
              try simp only [e1,e2,e3]
              split at he
              ·exact he.elim
              ·rename_i xs hxs'
               try simp only [hxs']
               obtain ⟨n,q1,q2,q3,zs,q4,q5⟩ := he
               have := fin { S.kill k with objs := (k,zs) :: delObj k S.objs } { (S.put oi.dst x).kill k with objs := (k,zs) :: delObj k S.objs } (.osl k e j.size) ((Agree.kill S hh).trans (Agree.consO (S.kill k) _ hh)) (by
                rw [put_kill hk]
                cases oi.dst <;> rfl)
               rw [hd] at this
               exact ⟨n,q1,q2,q3,zs,q4,this q5⟩
             ·exact he.elim
           | _ => first | cases hh | exact he.elim
       ·exact he.elim
      ·exact he.elim
  | _ => rw [hop] at hh; simp [hardSafe] at hh
 ·rename_i hw
  refine ⟨hy.put h3,?_⟩
  rw [← ASt.put_comm h2]
  exact h
 ·exact h.elim
def stepB (C : Ctx) (call : CallH) (Y : Yld) (ops : Array Oper) (c : Kinds) (i : Nat) (K : ASt → Prop) (S : ASt) : Prop :=
 match ops[i]? with
 | none => K S
 | some o => match c.of i with
   | 0 => qStep C ops o K S
   | 1 => cStep C ops c.pr o K S
   | 2 => ∃ K' : ASt → Prop,hStep C call Y ops c.pr o K' S ∧ ∀ S',K' S' → K S'
   | _ => ∃ K' : ASt → Prop,lStep C call Y ops o K' S ∧ ∀ S',K' S' → K S'
def anyB (C : Ctx) (call : CallH) (Y : Yld) (ops : Array Oper) (c : Kinds) (K : ASt → Prop) : Nat → Array Bool → ASt → Prop
 | 0,listed,S => Region.ready .any ops listed = [] ∧ K S
 | fuel + 1,listed,S => (Region.ready .any ops listed = [] → K S) ∧ ∀ i ∈ Region.ready .any ops listed,stepB C call Y ops c i (anyB C call Y ops c K fuel (listed.setIfInBounds i true)) S
theorem hStep_l {pr : List Nat} {K : ASt → Prop} (h : hStep C call Y ops pr o K S) : lStep C call Y ops o K S := by
 unfold hStep at h
 unfold lStep
 split at h
 ·rename_i hw; first | exact h.2 | (rw [hw]; exact h.2)
 ·rename_i hw; first | exact h | (rw [hw]; exact h)
 ·exact h.elim
theorem anyB_sound (hcall : CallOK E.C call) (hY : YldSound E Y) {c : Kinds} {K : ASt → Prop} {Q : Exit → Act → World → Prop} (hQ : ∀ S a w,K S → Sim E S a w → Q .normal a w) (hP : PanOK E Q) :
 ∀ (fuel : Nat) (listed : Array Bool) (S : ASt) (a : Act) (w : World),Sim E S a w → anyB E.C call Y ops c K fuel listed S → wpAnyIn E.fence 0 E.C.P .any ops Q fuel listed a w := by
 intro fuel
 induction fuel with
 | zero => intro listed S a w hs h; exact ⟨h.1,hQ _ _ _ h.2 hs⟩
 | succ fuel ih =>
   intro listed S a w hs h
   refine ⟨fun h0 => hQ _ _ _ (h.1 h0) hs,fun i hi => ?_⟩
   have h2 := h.2 i hi
   unfold stepB at h2
   unfold wpOpIn
   split at h2
   ·rename_i ho
    simp only [ho]
    exact ih _ _ _ _ hs h2
   ·rename_i o ho
    simp only [ho]
    split at h2
    ·exact qStep_sound hs h2 fun S a w hk hs' => ih _ _ _ _ hs' hk
    ·obtain ⟨x,hy,hK⟩ := h2
     exact qStep_sound hs (hy.yA.qStep hK) fun S a w hk hs' => ih _ _ _ _ hs' hk
    ·obtain ⟨K',h3,h4⟩ := h2
     exact lStep_sound hcall hY hs (hStep_l h3) hP fun S a w hk hs' => ih _ _ _ _ hs' (h4 _ hk)
    ·obtain ⟨K',h3,h4⟩ := h2
     exact lStep_sound hcall hY hs h3 hP fun S a w hk hs' => ih _ _ _ _ hs' (h4 _ hk)
def Keeps (C : Ctx) (ops : Array Oper) (c : Kinds) (i : Nat) (o : Oper) (x : FV) (S : ASt) : Prop := match c.of i with
 | 0 => YieldsA C ops o x S
 | _ => YieldsC C ops c.pr o x S
theorem stepB_put {c : Kinds} {i j : Nat} {oi oj : Oper} {x : FV} (hj : ops[j]? = some oj) (hi1 : c.of i ≤ 1) (hjc : c.of j ≤ c.of i + 1) (hap : oi.apart ops oj = true) {K : ASt → Prop} (hy : Keeps C ops c i oi x S) (h : stepB C call Y ops c j K (S.put oi.dst x)) :
 stepB C call Y ops c j (fun S' => Keeps C ops c i oi x S' ∧ K (S'.put oi.dst x)) S := by
 obtain ⟨h1,h2,h3⟩ := Oper.apart_spec hap
 have kput : ∀ {S : ASt} {v : FV},Keeps C ops c i oi x S → Keeps C ops c i oi x (S.put oj.dst v) := fun {S v} hk => by
  unfold Keeps at *
  split
  ·rename_i he; simp only [he] at hk; exact hk.put h3
  ·rename_i he
   have : YieldsC C ops c.pr oi x S := by
    split at hk
    ·rename_i he2; exact absurd he2 he
    ·exact hk
   exact this.put h3
 unfold stepB at *
 simp only [hj] at h ⊢
 split at h
 ·obtain ⟨u,hu,hK⟩ := qStep_yields h
  refine (hu.unput h1).qStep ⟨kput hy,?_⟩
  rw [← ASt.put_comm h2]
  exact hK
 ·obtain ⟨u,hu,hK⟩ := h
  refine ⟨u,hu.unput h1,kput hy,?_⟩
  rw [← ASt.put_comm h2]
  exact hK
 ·rename_i hc2
  have hi : c.of i = 1 := by omega
  have hyc : YieldsC C ops c.pr oi x S := by
   unfold Keeps at hy
   simp only [hi] at hy
   exact hy
  obtain ⟨K',h4,h5⟩ := h
  refine ⟨_,hStep_put hap hyc h4,fun S' h' => ⟨?_,h5 _ h'.2⟩⟩
  unfold Keeps
  simp only [hi]
  exact h'.1
 ·rename_i n0 n1 n2
  exfalso
  have : c.of j ≤ 2 := by omega
  have : c.of j = 0 ∨ c.of j = 1 ∨ c.of j = 2 := by omega
  rcases this with e | e | e
  ·exact n0 e
  ·exact n1 e
  ·exact n2 e
theorem anyB_first {c : Kinds} {K : ASt → Prop} {i : Nat} {oi : Oper} {x : FV} (hi : ops[i]? = some oi) (hi1 : c.of i ≤ 1) :
 ∀ (fuel : Nat) (listed : Array Bool) (S : ASt),Closed ops listed →
   (∀ j oj,ops[j]? = some oj → j ≠ i → listed.getD j true = false → reachB ops ops.size j i = true ∨ (c.of j ≤ c.of i + 1 ∧ oi.apart ops oj = true)) →
   i ∈ Region.ready .any ops listed → Keeps C ops c i oi x S →
   anyB C call Y ops c K fuel (listed.setIfInBounds i true) (S.put oi.dst x) → anyB C call Y ops c K (fuel + 1) listed S := by
 have self : ∀ {K' : ASt → Prop} {S : ASt},Keeps C ops c i oi x S → K' (S.put oi.dst x) → stepB C call Y ops c i K' S := fun {K' S} hy h => by
  unfold stepB
  simp only [hi]
  unfold Keeps at hy
  have : c.of i = 0 ∨ c.of i = 1 := by omega
  rcases this with e | e
  ·simp only [e] at hy ⊢; exact hy.qStep h
  ·simp only [e] at hy ⊢; exact ⟨x,hy,h⟩
 intro fuel
 induction fuel with
 | zero =>
   intro listed S _ _ hr hy H
   refine ⟨fun h => (by rw [h] at hr; cases hr),fun j hj => ?_⟩
   by_cases hji : j = i
   ·subst hji; exact self hy H
   ·have := ready_mono hj hji
    rw [H.1] at this
    cases this
 | succ fuel ih =>
   intro listed S hcl hfree hr hy H
   refine ⟨fun h => (by rw [h] at hr; cases hr),fun j hj => ?_⟩
   by_cases hji : j = i
   ·subst hji; exact self hy H
   ·have h1 := H.2 j (ready_mono hj hji)
    obtain ⟨hjun,oj,hoj,hall⟩ := mem_ready.1 hj
    rcases hfree j oj hoj hji hjun with hre | ⟨hjm,hap⟩
    ·have h2 := hcl.reach _ _ _ hre fun o ho => by
      rw [hoj] at ho
      obtain rfl := Option.some.inj ho
      exact hall
     rw [unlisted (mem_ready.1 hr).1] at h2
     cases h2
    ·have h2 := stepB_put hoj hi1 hjm hap hy h1
     have hfree' : ∀ k ok,ops[k]? = some ok → k ≠ i → (listed.setIfInBounds j true).getD k true = false → reachB ops ops.size k i = true ∨ (c.of k ≤ c.of i + 1 ∧ oi.apart ops ok = true) := fun k ok hk hki hun => by
      refine hfree k ok hk hki ?_
      by_cases hjk : j = k
      ·subst hjk; exact hjun
      ·rw [getD_set_ne true hjk] at hun; exact hun
     have mono : ∀ {K1 K2 : ASt → Prop} {S : ASt},(∀ S',K1 S' → K2 S') → stepB C call Y ops c j K1 S → stepB C call Y ops c j K2 S := fun {K1 K2 S} hm hq => by
      unfold stepB at *
      simp only [hoj] at hq ⊢
      split at hq
      ·obtain ⟨y,q1,q2⟩ := qStep_yields hq; exact q1.qStep (hm _ q2)
      ·obtain ⟨y,q1,q2⟩ := hq; exact ⟨y,q1,hm _ q2⟩
      ·obtain ⟨K',q1,q2⟩ := hq; exact ⟨K',q1,fun S' h => hm _ (q2 S' h)⟩
      ·obtain ⟨K',q1,q2⟩ := hq; exact ⟨K',q1,fun S' h => hm _ (q2 S' h)⟩
     refine mono (fun S' h' => ?_) h2
     refine ih (listed.setIfInBounds j true) _ (hcl.set hj) hfree' (ready_mono hr (Ne.symm hji)) h'.1 ?_
     rw [Array.setIfInBounds_comm _ _ hji]
     exact h'.2
theorem evStep_spec {c : Kinds} {k : Nat} {K : ASt → Prop} (h : evStep C call Y ops c k K S) : stepB C call Y ops c k K S ∧ (c.of k ≤ 1 → ∃ o x,ops[k]? = some o ∧ Keeps C ops c k o x S ∧ K (S.put o.dst x)) := by
 unfold evStep at h
 split at h
 ·exact h.elim
 ·rename_i o ho
  have ho' : ops[k]? = some o := by simpa using ho
  unfold stepB Keeps
  simp only [ho']
  split at h
  ·rename_i e
   have := evQ_cons h
   obtain ⟨x,hy,hK⟩ := qStep_yields this
   simp only [e]
   exact ⟨hy.qStep hK,fun _ => ⟨o,x,rfl,hy,hK⟩⟩
  ·rename_i e
   obtain ⟨x,hy,hK⟩ := evC1_spec h
   simp only [e]
   exact ⟨⟨x,hy,hK⟩,fun _ => ⟨o,x,rfl,hy,hK⟩⟩
  ·rename_i e
   simp only [e]
   exact ⟨⟨_,evH1_spec h,fun _ h => h⟩,fun hle => absurd hle (by omega)⟩
  ·rename_i n0 n1 n2
   have a0 : c.of k ≠ 0 := n0
   have a1 : c.of k ≠ 1 := n1
   have a2 : c.of k ≠ 2 := n2
   obtain ⟨n,hn⟩ : ∃ n,c.of k = n + 3 := ⟨c.of k - 3,by omega⟩
   simp only [hn]
   exact ⟨⟨_,evOps_cons h,fun _ h => h⟩,fun hle => absurd hle (by omega)⟩
theorem evPlan_sound {c : Kinds} {K : ASt → Prop} : ∀ (p : Plan),
 (∀ (fuel : Nat) (listed : Array Bool) (S : ASt),Closed ops listed → planOK ops c p true fuel listed = true → evPlan C call Y ops c K p S → anyB C call Y ops c K fuel listed S) ∧
 (∀ (fuel : Nat) (listed : Array Bool) (S : ASt),Closed ops listed → planOK ops c p false fuel listed = true → evPlan C call Y ops c K p S → ∀ i,i ∈ p.heads → i ∈ Region.ready .any ops listed → ∃ f,fuel = f + 1 ∧ stepB C call Y ops c i (anyB C call Y ops c K f (listed.setIfInBounds i true)) S) := by
 intro p
 induction p with
 | fin =>
   refine ⟨fun fuel listed S hcl hB h => ?_,fun fuel listed S hcl hB h i hi => by cases hi⟩
   simp only [planOK,Bool.true_and,List.isEmpty_iff] at hB
   cases fuel with
   | zero => exact ⟨hB,h⟩
   | succ fuel => exact ⟨fun _ => h,fun i hi => by rw [hB] at hi; cases hi⟩
 | stop =>
   refine ⟨fun fuel listed S hcl hB h => ?_,fun fuel listed S hcl hB h i hi => by cases hi⟩
   simp [planOK] at hB
 | one k p ih =>
   refine ⟨fun fuel listed S hcl hB h => ?_,fun fuel listed S hcl hB h i hi => by cases hi⟩
   cases fuel with
   | zero => simp [planOK] at hB
   | succ fuel =>
     simp only [planOK,Bool.true_and,Bool.and_eq_true] at hB
     obtain ⟨⟨⟨hq,hr⟩,hf⟩,hB'⟩ := hB
     have hr' : k ∈ Region.ready .any ops listed := by simpa using hr
     have hq' : c.of k ≤ 1 := Nat.le_of_ble_eq_true hq
     simp only [evPlan] at h
     obtain ⟨o,x,ho,hy,hK⟩ := (evStep_spec h).2 hq'
     refine anyB_first ho hq' fuel listed S hcl (fun j oj hj hne hun => ?_) hr' hy ?_
     ·refine (freeB_spec ho hf j oj hj hne hun).imp id fun h => ⟨Nat.le_of_ble_eq_true h.1,h.2⟩
     ·exact ih.1 fuel _ _ (hcl.set hr') hB' hK
 | alt k p r ihp ihr =>
   have parts : ∀ {S : ASt},evPlan C call Y ops c K (.alt k p r) S → evStep C call Y ops c k (evPlan C call Y ops c K p) S ∧ evPlan C call Y ops c K r S := fun {S} h => by
    simp only [evPlan] at h
    split at h
    ·exact ⟨h,trivial⟩
    ·exact h
   have both : ∀ (top : Bool) (fuel : Nat) (listed : Array Bool) (S : ASt),Closed ops listed → planOK ops c (.alt k p r) top fuel listed = true → evPlan C call Y ops c K (.alt k p r) S → ∀ i,i ∈ (Plan.alt k p r).heads → i ∈ Region.ready .any ops listed →
    ∃ f,fuel = f + 1 ∧ stepB C call Y ops c i (anyB C call Y ops c K f (listed.setIfInBounds i true)) S := fun top fuel listed S hcl hB h i hi hr => by
    obtain ⟨hst,hrest⟩ := parts h
    cases fuel with
    | zero => simp [planOK] at hB
    | succ f =>
      simp only [planOK,Bool.and_eq_true] at hB
      rcases List.mem_cons.1 hi with rfl | hi
      ·refine ⟨f,rfl,?_⟩
       have hs := (evStep_spec hst).1
       obtain ⟨-,o,ho,-⟩ := mem_ready.1 hr
       unfold stepB at hs ⊢
       simp only [ho] at hs ⊢
       have hnx : ∀ S',evPlan C call Y ops c K p S' → anyB C call Y ops c K f (listed.setIfInBounds i true) S' := fun S' h' => ihp.1 f _ _ (hcl.set hr) hB.2.1 h'
       split at hs
       ·obtain ⟨y,q1,q2⟩ := qStep_yields hs; exact q1.qStep (hnx _ q2)
       ·obtain ⟨y,q1,q2⟩ := hs; exact ⟨y,q1,hnx _ q2⟩
       ·obtain ⟨K',q1,q2⟩ := hs; exact ⟨K',q1,fun S' h => hnx _ (q2 S' h)⟩
       ·obtain ⟨K',q1,q2⟩ := hs; exact ⟨K',q1,fun S' h => hnx _ (q2 S' h)⟩
      ·exact ihr.2 (f + 1) listed S hcl hB.2.2 hrest i hi hr
   refine ⟨fun fuel listed S hcl hB h => ?_,fun fuel listed S hcl hB h i hi hr => both false fuel listed S hcl hB h i hi hr⟩
   have hB0 := hB
   cases fuel with
   | zero => simp [planOK] at hB
   | succ f =>
     simp only [planOK,Bool.not_true,Bool.false_or,Bool.and_eq_true,beq_iff_eq] at hB
     refine ⟨fun e => (by rw [hB.1] at e; cases e),fun i hi => ?_⟩
     obtain ⟨f',hf,hst⟩ := both true (f + 1) listed S hcl hB0 h i (by rw [hB.1] at hi; exact hi) hi
     obtain rfl : f = f' := by omega
     exact hst
theorem plan_sound (hcall : CallOK E.C call) (hY : YldSound E Y) {id : Nat} {c : Kinds} {p : Plan} {K : ASt → Prop} {Q : Exit → Act → World → Prop} (hQ : ∀ S a w,K S → Sim E S a w → Q .normal a w) (hP : PanOK E Q)
 (hB : planOK ops c p true ops.size (Array.replicate ops.size false) = true) (hs : Sim E S a w) (h : evPlan E.C call Y ops c K p S) : (Code.region id ops true).wpIn E.fence 0 E.C.P Q a w := by
 refine wpIn_region_any E.C.mixed (anyB_sound hcall hY (c := c) hQ hP _ _ _ _ _ (let ⟨G,hs⟩ := hs; ⟨G,hs.drew⟩) ?_)
 exact (evPlan_sound p).1 _ _ _ ⟨by simp,fun p o hp hl => by
  have : p < ops.size := (Array.getElem?_eq_some_iff.1 hp).1
  simp [this] at hl⟩ hB h
def unlN (n : Nat) (listed : Array Bool) : Nat := ((List.range n).filter fun i => !listed.getD i true).length
theorem filter_less {α : Type} {p q : α → Bool} {k : α} : ∀ {l : List α},(∀ i,i ∈ l → q i = true → p i = true) → k ∈ l → p k = true → q k = false → (l.filter q).length < (l.filter p).length
 | [],_,hk,_,_ => by cases hk
 | x :: l,h,hk,h1,h2 => by
   have hle : ∀ {l : List α},(∀ i,i ∈ l → q i = true → p i = true) → (l.filter q).length ≤ (l.filter p).length := by
    intro l
    induction l with
    | nil => intro _; exact Nat.le_refl _
    | cons y l ih =>
      intro h
      have := ih fun i hi => h i (List.mem_cons_of_mem _ hi)
      rw [List.filter_cons,List.filter_cons]
      cases hq : q y with
      | true => rw [h y List.mem_cons_self hq]; simp; exact this
      | false => cases p y <;> simp <;> omega
   have hl := fun i hi => h i (List.mem_cons_of_mem _ hi)
   rw [List.filter_cons,List.filter_cons]
   rcases List.mem_cons.1 hk with rfl | hk
   ·rw [h1,h2]
    have := hle hl
    simp; omega
   ·have := filter_less hl hk h1 h2
    cases hq : q x with
    | true => rw [h x List.mem_cons_self hq]; simp; exact this
    | false => cases p x <;> simp <;> omega
theorem sea_any {c : Kinds} {J : Array Bool → ASt → Prop} {K : ASt → Prop} (h1 : ∀ (listed : Array Bool) (S' : ASt) (k : Nat),J listed S' → k ∈ Region.ready .any ops listed → evStep C call Y ops c k (J (listed.setIfInBounds k true)) S')
 (h2 : ∀ (listed : Array Bool) (S' : ASt),J listed S' → Region.ready .any ops listed = [] → K S') :
 ∀ (fuel : Nat) (listed : Array Bool) (S : ASt),unlN ops.size listed ≤ fuel → J listed S → anyB C call Y ops c K fuel listed S := by
 intro fuel
 induction fuel with
 | zero =>
   intro listed S hn hJ
   have hr : Region.ready .any ops listed = [] := by
    cases hq : Region.ready .any ops listed with
    | nil => rfl
    | cons k r =>
      exfalso
      have hk : k ∈ Region.ready .any ops listed := by rw [hq]; exact List.mem_cons_self
      obtain ⟨h3,o,ho,-⟩ := mem_ready.1 hk
      have hlt := (Array.getElem?_eq_some_iff.1 ho).1
      have : k ∈ (List.range ops.size).filter fun i => !listed.getD i true := List.mem_filter.2 ⟨List.mem_range.2 hlt,by rw [h3]; rfl⟩
      have := List.length_pos_of_mem this
      unfold unlN at hn
      omega
   exact ⟨hr,h2 _ _ hJ hr⟩
 | succ fuel ih =>
   intro listed S hn hJ
   refine ⟨h2 _ _ hJ,fun k hk => ?_⟩
   obtain ⟨h3,o,ho,-⟩ := mem_ready.1 hk
   have hlt := (Array.getElem?_eq_some_iff.1 ho).1
   have hun : unlN ops.size (listed.setIfInBounds k true) < unlN ops.size listed := by
    refine filter_less (k := k) (fun i _ h => ?_) (List.mem_range.2 hlt) (by rw [h3]; rfl) ?_
    ·by_cases hik : k = i
     ·subst hik; rw [h3]; rfl
     ·rw [getD_set_ne true hik] at h; exact h
    ·have hsz : k < listed.size := by
      rcases Nat.lt_or_ge k listed.size with h | h
      ·exact h
      ·rw [Array.getD_eq_getD_getElem?,Array.getElem?_eq_none h] at h3
       cases h3
     simp [Array.getD_eq_getD_getElem?,Array.getElem?_setIfInBounds,hsz]
   have hs := (evStep_spec (h1 listed S k hJ hk)).1
   have hnx : ∀ S',J (listed.setIfInBounds k true) S' → anyB C call Y ops c K fuel (listed.setIfInBounds k true) S' := fun S' h => ih _ _ (by omega) h
   unfold stepB at hs ⊢
   simp only [ho] at hs ⊢
   split at hs
   ·obtain ⟨y,q1,q2⟩ := qStep_yields hs; exact q1.qStep (hnx _ q2)
   ·obtain ⟨y,q1,q2⟩ := hs; exact ⟨y,q1,hnx _ q2⟩
   ·obtain ⟨K',q1,q2⟩ := hs; exact ⟨K',q1,fun S' h => hnx _ (q2 S' h)⟩
   ·obtain ⟨K',q1,q2⟩ := hs; exact ⟨K',q1,fun S' h => hnx _ (q2 S' h)⟩
theorem getObj_keep {o : Nat} {l : List (Nat × List FV)} {ys : List FV} (h : Qv.getObj l o = some ys) : ∃ xs,Qv.getObj l o = some xs ∧ xs.length = ys.length ∧ ∀ (i : Nat) (x y : FV),xs[i]? = some x → ys[i]? = some y → Weak x y :=
 ⟨ys,h,rfl,fun i x y hx hy => by rw [hx] at hy; obtain rfl := Option.some.inj hy; exact Weak.refl _⟩
theorem Weaken.refl (S : ASt) : Weaken S S := ⟨rfl,rfl,rfl,fun _ _ q => ⟨q,id⟩,⟨rfl,fun i f f' h1 h2 => by rw [h1] at h2; obtain rfl := Option.some.inj h2; exact ⟨rfl,rfl,fun _ => Weak.refl _⟩⟩,fun _ => Weak.refl _,fun _ _ h => getObj_keep h,fun o l h => ⟨l,h,rfl,fun i p p' h1 h2 => by rw [h1] at h2; obtain rfl := Option.some.inj h2; exact ⟨rfl,Weak.refl _⟩⟩,fun _ _ h => h⟩
theorem off_refl (S : ASt) (ds : List Nat) : Off ds S S := ⟨rfl,rfl,rfl,rfl,rfl,rfl,rfl,rfl,fun _ _ => rfl⟩
theorem evRegion_sound (hcall : CallOK E.C call) (hY : YldSound E Y) {id : Nat} {draw : Bool} {K : ASt → Prop} {Q : Exit → Act → World → Prop} (hQ : ∀ S a w,K S → Sim E S a w → Q .normal a w) (hP : PanOK E Q) (hs : Sim E S a w)
 (h : evRegion E.C call Y ops draw K S) : (Code.region id ops draw).wpIn E.fence 0 E.C.P Q a w := by
 have keep : ∀ (φ : List FV → Prop),evKeep K (S.junked (dstsOf ops.toList)) (keptOf ops.toList) φ → ∀ S' a w,(φ (getAll S' (keptOf ops.toList)) ∧ Off (dstsOf ops.toList) S S') → Sim E S' a w → Q .normal a w := fun φ hk S' a w ⟨h1,h2⟩ hs' => by
  obtain ⟨T,h3,h4⟩ := getAll_keep _ _ _ hk h1 h2.weaken
  exact hQ T a w h3 (hs'.weaken h4)
 have hd : ∀ o,o ∈ ops.toList → ∀ d,o.dst = some d → d ∈ dstsOf ops.toList := fun o ho d hd => mem_dstsOf ho hd
 unfold evRegion at h
 split at h
 ·exact wpIn_region_list (evOps_sound hcall hY hQ hP _ _ _ _ h hs)
 ·obtain ⟨φ,h⟩ := h
  cases φ with
  | none => exact wpIn_region_list (evOps_sound hcall hY hQ hP _ _ _ _ h hs)
  | some φ =>
    obtain ⟨h1,h2⟩ := h
    exact wpIn_region_list (evQ_sound (keep φ h2) _ _ _ _ (evQ_off _ _ _ hd (off_refl _ _) h1) hs)
 ·obtain ⟨how,h⟩ := h
  cases how with
  | lex m =>
    obtain ⟨hB,h⟩ := h
    have hm : m ≤ ops.size := by
     simp only [drawOK,Bool.and_eq_true,decide_eq_true_eq] at hB
     exact hB.1.1
    exact draw_sound hcall hY hQ hP hB hs h hm
  | keep φ =>
    obtain ⟨hB,h1,h2⟩ := h
    refine draw_sound hcall hY (m := ops.size) (keep φ h2) hP hB hs ?_ (Nat.le_refl _)
    have h3 := evQ_off (ds := dstsOf ops.toList) _ _ _ hd (off_refl _ _) h1
    have e1 : ops.toList.take ops.size = ops.toList := List.take_of_length_le (by simp)
    have e2 : ops.toList.drop ops.size = [] := List.drop_of_length_le (by simp)
    rw [e1,e2]
    exact h3
  | plan c p T =>
    obtain ⟨hB,h⟩ := h
    cases T with
    | none => exact plan_sound hcall hY hQ hP hB hs h
    | some T => exact plan_sound hcall hY (K := fun S' => Weaken S' T) (fun S a w hw hs => hQ T a w h.2 (hs.weaken hw)) hP hB hs h.1
  | sea c J =>
    obtain ⟨h0,h1,h2⟩ := h
    exact wpIn_region_any E.C.mixed (anyB_sound hcall hY (c := c) hQ hP _ _ _ _ _ (let ⟨G,hs⟩ := hs; ⟨G,hs.drew⟩) (sea_any h1 h2 ops.size _ _ (Nat.le_trans (List.length_filter_le _ _) (by simp)) h0))
end
end Qv

end
