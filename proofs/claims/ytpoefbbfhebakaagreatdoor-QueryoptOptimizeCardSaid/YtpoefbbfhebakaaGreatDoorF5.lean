/- Several texts in one: What two globs have in common, in plain terms and what follows. No condition. -/
import Derived.Test.YtpoefbbfhebakaaGreatDoorF2
import Derived.Test.YtpoefbbfhebakaaGreatDoorF4
set_option linter.unusedVariables false
set_option linter.unusedSimpArgs false

section
open Go Go.Proofs Go.RowKit
namespace Qv
theorem nodup_len {α : Type} [DecidableEq α] : ∀ {l L : List α},l.Nodup → (∀ x,x ∈ l → x ∈ L) → l.length ≤ L.length
 | [],L,_,_ => Nat.zero_le _
 | x :: l,L,hn,hs => by
   rw [List.nodup_cons] at hn
   have hx : x ∈ L := hs x List.mem_cons_self
   have := nodup_len (l := l) (L := L.erase x) hn.2 fun y hy => by
    have hne : y ≠ x := fun e => hn.1 (e ▸ hy)
    exact (List.mem_erase_of_ne hne).2 (hs y (List.mem_cons_of_mem _ hy))
   rw [List.length_erase_of_mem hx] at this
   have hp : 0 < L.length := List.length_pos_of_mem hx
   rw [List.length_cons]
   omega
theorem reach_app {l : List Atom} {s t : Bytes} : ∀ {k j : Nat},k ≤ s.length → (reach l (s ++ t) k j ↔ reach l s k j)
 | 0,j,_ => Iff.rfl
 | k + 1,j,h => by
   unfold reach
   have hk : (s ++ t)[k]? = s[k]? := List.getElem?_append_left (by omega)
   constructor
   ·rintro ⟨i,c,h1,h2,h3⟩
    exact ⟨i,c,(reach_app (by omega)).1 h1,hk ▸ h2,h3⟩
   ·rintro ⟨i,c,h1,h2,h3⟩
    exact ⟨i,c,(reach_app (by omega)).2 h1,hk.symm ▸ h2,h3⟩
def noSlash (s : Bytes) : Prop := ∀ c,c ∈ s → c ≠ 47
def rp (a b : List Atom) (q : Nat × Nat) : Prop := ∃ s : Bytes,noSlash s ∧ reach a s s.length q.1 ∧ reach b s s.length q.2
theorem rp_zero (a b : List Atom) : rp a b (0,0) := ⟨[],fun c h => (by cases h),rfl,rfl⟩
theorem rp_step {a b : List Atom} {p q : Nat × Nat} {c : UInt8} (h : rp a b p) (hc : c ≠ 47) (h1 : stepP a c p.1 q.1) (h2 : stepP b c p.2 q.2) : rp a b q := by
 obtain ⟨s,hs,r1,r2⟩ := h
 have hl : (s ++ [c]).length = s.length + 1 := by simp
 have hget : (s ++ [c])[s.length]? = some c := by simp
 refine ⟨s ++ [c],fun d hd => ?_,?_,?_⟩
 ·rcases List.mem_append.1 hd with hd | hd
  ·exact hs d hd
  ·rw [List.mem_singleton.1 hd]; exact hc
 ·rw [hl]
  exact ⟨p.1,c,(reach_app (Nat.le_refl _)).2 r1,hget,h1⟩
 ·rw [hl]
  exact ⟨p.2,c,(reach_app (Nat.le_refl _)).2 r2,hget,h2⟩
theorem rp_le {a b : List Atom} {q : Nat × Nat} (h : rp a b q) : q.1 ≤ a.length ∧ q.2 ≤ b.length := by
 obtain ⟨s,-,r1,r2⟩ := h
 exact ⟨reach_le r1,reach_le r2⟩
def commonP (a b : List Atom) : Prop := ∃ s : Bytes,noSlash s ∧ fitsP a s ∧ fitsP b s
theorem common_of {a b : List Atom} {q : Nat × Nat} (h : rp a b q) (h1 : endedF a q.1 = true) (h2 : endedF b q.2 = true) : commonP a b := by
 obtain ⟨s,hs,r1,r2⟩ := h
 exact ⟨s,hs,⟨_,r1,h1⟩,⟨_,r2,h2⟩⟩
def doneP (a b : List Atom) (met : List (Nat × Nat)) (q : Nat × Nat) : Prop :=
 ¬ (endedF a q.1 = true ∧ endedF b q.2 = true) ∧ ∀ c,c ≠ 47 → ∀ i j,stepP a c q.1 i → stepP b c q.2 j → (i,j) ∈ met
theorem doneP.mono {a b : List Atom} {m m' : List (Nat × Nat)} {q : Nat × Nat} (h : doneP a b m q) (hm : ∀ x,x ∈ m → x ∈ m') : doneP a b m' q :=
 ⟨h.1,fun c hc i j h1 h2 => hm _ (h.2 c hc i j h1 h2)⟩
theorem common_none {a b : List Atom} {met : List (Nat × Nat)} (h0 : (0,0) ∈ met) (hd : ∀ q,q ∈ met → doneP a b met q) : ¬ commonP a b := by
 rintro ⟨s,hs,⟨i,hi,ei⟩,⟨j,hj,ej⟩⟩
 have key : ∀ k,k ≤ s.length → ∀ i j,reach a s k i → reach b s k j → (i,j) ∈ met := by
  intro k
  induction k with
  | zero =>
    intro _ i j h1 h2
    have h1 : i = 0 := h1
    have h2 : j = 0 := h2
    subst h1; subst h2
    exact h0
  | succ k ih =>
    intro hk i j h1 h2
    obtain ⟨i',c,r1,e1,s1⟩ := h1
    obtain ⟨j',c',r2,e2,s2⟩ := h2
    rw [e1] at e2
    obtain rfl := Option.some.inj e2
    exact (hd _ (ih (by omega) i' j' r1 r2)).2 c (hs c (List.mem_of_getElem? e1)) i j s1 s2
 exact (hd _ (key s.length (Nat.le_refl _) i j hi hj)).1 ⟨ei,ej⟩
structure Co (a b : List Atom) (m0 w0 : List (Nat × Nat)) (p : Nat × Nat) (met work : List (Nat × Nat)) : Prop where
 nd : met.Nodup
 rp : ∀ q,q ∈ met → rp a b q
 zero : (0,0) ∈ met
 sub : ∀ q,q ∈ work → q ∈ met
 proc : ∀ q,q ∈ met → q ∈ work ∨ q = p ∨ doneP a b met q
 cnt : met.length + w0.length = m0.length + work.length
 wl : work.length ≤ met.length
theorem Co.push {a b : List Atom} {m0 w0 met work : List (Nat × Nat)} {p q : Nat × Nat} (h : Co a b m0 w0 p met work) (hq : Qv.rp a b q) (hn : q ∉ met) : Co a b m0 w0 p (met ++ [q]) (work ++ [q]) := by
 refine ⟨?_,fun x hx => ?_,List.mem_append_left _ h.zero,fun x hx => ?_,fun x hx => ?_,?_,by have := h.wl; simp; exact this⟩
 ·have : ([q] ++ met).Nodup := by
   show (q :: met).Nodup
   rw [List.nodup_cons]
   exact ⟨hn,h.nd⟩
  exact (List.perm_append_comm.nodup_iff).1 this
 ·rcases List.mem_append.1 hx with hx | hx
  ·exact h.rp x hx
  ·rw [List.mem_singleton.1 hx]; exact hq
 ·rcases List.mem_append.1 hx with hx | hx
  ·exact List.mem_append_left _ (h.sub x hx)
  ·exact List.mem_append_right _ hx
 ·rcases List.mem_append.1 hx with hx | hx
  ·rcases h.proc x hx with h1 | h1 | h1
   ·exact .inl (List.mem_append_left _ h1)
   ·exact .inr (.inl h1)
   ·exact .inr (.inr (h1.mono fun y hy => List.mem_append_left _ hy))
  ·exact .inl (List.mem_append_right _ hx)
 ·have := h.cnt
  simp only [List.length_append,List.length_cons,List.length_nil]
  omega
def allPairs (n m : Nat) : List (Nat × Nat) := (List.range (n + 1)).flatMap fun i => (List.range (m + 1)).map fun j => (i,j)
theorem allPairs_len (n m : Nat) : (allPairs n m).length = (n + 1) * (m + 1) := by
 unfold allPairs
 rw [List.length_flatMap]
 simp [List.map_const',List.sum_replicate_nat]
theorem met_len {a b : List Atom} {met : List (Nat × Nat)} (hn : met.Nodup) (hr : ∀ q,q ∈ met → rp a b q) : met.length ≤ (a.length + 1) * (b.length + 1) := by
 rw [← allPairs_len]
 refine nodup_len hn fun q hq => ?_
 obtain ⟨h1,h2⟩ := rp_le (hr q hq)
 unfold allPairs
 rw [List.mem_flatMap]
 exact ⟨q.1,List.mem_range.2 (by omega),List.mem_map.2 ⟨q.2,List.mem_range.2 (by omega),rfl⟩⟩
structure CoO (a b : List Atom) (met work : List (Nat × Nat)) : Prop where
 nd : met.Nodup
 rp : ∀ q,q ∈ met → Qv.rp a b q
 zero : (0,0) ∈ met
 sub : ∀ q,q ∈ work → q ∈ met
 proc : ∀ q,q ∈ met → q ∈ work ∨ doneP a b met q
 wl : work.length ≤ met.length
theorem CoO.start (a b : List Atom) : CoO a b [(0,0)] [(0,0)] :=
 ⟨by simp,fun q hq => by rw [List.mem_singleton.1 hq]; exact rp_zero a b,by simp,fun q hq => hq,fun q hq => .inl hq,by simp⟩
theorem CoO.take {a b : List Atom} {met W : List (Nat × Nat)} {p : Nat × Nat} (h : CoO a b met (W ++ [p])) : Co a b met W p met W := by
 refine ⟨h.nd,h.rp,h.zero,fun q hq => h.sub q (List.mem_append_left _ hq),fun q hq => ?_,rfl,by have := h.wl; simp at this; omega⟩
 rcases h.proc q hq with h1 | h1
 ·rcases List.mem_append.1 h1 with h1 | h1
  ·exact .inl h1
  ·exact .inr (.inl (List.mem_singleton.1 h1))
 ·exact .inr (.inr h1)
theorem Co.back {a b : List Atom} {m0 w0 met W : List (Nat × Nat)} {p : Nat × Nat} (h : Co a b m0 w0 p met W) (hp : doneP a b met p) : CoO a b met W := by
 refine ⟨h.nd,h.rp,h.zero,h.sub,fun q hq => ?_,h.wl⟩
 rcases h.proc q hq with h1 | h1 | h1
 ·exact .inl h1
 ·subst h1; exact .inr hp
 ·exact .inr h1
inductive accC : List Comp → List Bytes → Prop
 | nil : accC [] []
 | skip (c : Comp) (cs : List Comp) (P : List Bytes) : c.deep = true → accC cs P → accC (c :: cs) P
 | take (c : Comp) (cs : List Comp) (p : Bytes) (P : List Bytes) : c.deep = true → accC (c :: cs) P → accC (c :: cs) (p :: P)
 | one (c : Comp) (cs : List Comp) (p : Bytes) (P : List Bytes) : c.deep = false → fitsP c.ones p → accC cs P → accC (c :: cs) (p :: P)
def ovF (com : List Atom → List Atom → Bool) : Nat → List Comp → List Comp → Bool
 | 0,_,_ => false
 | _ + 1,[],[] => true
 | n + 1,c :: x,[] => c.deep && ovF com n x []
 | n + 1,[],d :: y => d.deep && ovF com n [] y
 | n + 1,c :: x,d :: y => (c.deep && (ovF com n x (d :: y) || ovF com n (c :: x) y)) || (d.deep && (ovF com n (c :: x) y || ovF com n x (d :: y))) || (!c.deep && !d.deep && ovF com n x y && com c.ones d.ones)
end Qv

end

section
open Go Go.Proofs Go.RowKit
namespace Qv
def pK (q : Nat × Nat) : AV := .agg [.int .i64 (q.1 : Int),.int .i64 (q.2 : Int)]
def prF (l : List (Nat × Nat)) : List (AV × FV) := l.map fun q => (pK q,.p (.bool true))
def encW (l : List (Nat × Nat)) : List FV := l.flatMap fun q => [.p (.int .i64 (q.1 : Int)),.p (.int .i64 (q.2 : Int))]
theorem same_pK (p q : Nat × Nat) : sameA (pK p) (pK q) = decide (p = q) := by
 obtain ⟨a,b⟩ := p
 obtain ⟨c,d⟩ := q
 simp only [pK,sameA,sameAs,sameA1,sameK,kNum,Nat.beq_refl,Bool.true_and,Bool.and_true]
 rw [Bool.eq_iff_iff]
 simp only [Bool.and_eq_true,beq_iff_eq,decide_eq_true_eq,Prod.mk.injEq]
 omega
theorem find_pr (q : Nat × Nat) : ∀ l,findM (pK q) (prF l) = if q ∈ l then some (.p (.bool true)) else none
 | [] => rfl
 | p :: l => by
   show findM (pK q) ((pK p,FV.p (.bool true)) :: prF l) = _
   simp only [findM,same_pK,find_pr q l]
   by_cases h : q = p
   ·simp [h]
   ·simp [h]
theorem upd_pr (q : Nat × Nat) : ∀ l,q ∉ l → updM (pK q) (.p (.bool true)) (prF l) = prF (l ++ [q])
 | [],_ => rfl
 | p :: l,h => by
   have h1 : q ≠ p := fun e => h (e ▸ List.mem_cons_self)
   show updM (pK q) _ ((pK p,FV.p (.bool true)) :: prF l) = _
   simp only [updM,same_pK,decide_eq_false h1,upd_pr q l (fun hm => h (List.mem_cons_of_mem _ hm))]
   rfl
theorem fits_pr (l : List (Nat × Nat)) : ∀ p,p ∈ prF l → fitsK true [.int .i64,.int .i64] p.1 = true := fun p hp => by
 obtain ⟨i,-,rfl⟩ := List.mem_map.1 hp
 rfl
theorem kill_pr (d : Nat) : ∀ l,mapV (FV.kill d) (prF l) = prF l
 | [] => rfl
 | q :: l => by show (_,_) :: mapV (FV.kill d) (prF l) = _; rw [kill_pr d l]; rfl
theorem fz_pr (d : Nat) (ys : List AV) : ∀ l,mapV (FV.fz d ys) (prF l) = prF l
 | [] => rfl
 | q :: l => by show (_,_) :: mapV (FV.fz d ys) (prF l) = _; rw [fz_pr d ys l]; rfl
theorem kill_W (d : Nat) : ∀ l,FV.killL d (encW l) = encW l
 | [] => rfl
 | q :: l => by
   show FV.killL d (.p _ :: .p _ :: encW l) = .p _ :: .p _ :: encW l
   simp only [FV.killL,FV.kill,kill_W d l]
theorem fz_W (d : Nat) (ys : List AV) : ∀ l,FV.fzL d ys (encW l) = encW l
 | [] => rfl
 | q :: l => by
   show FV.fzL d ys (.p _ :: .p _ :: encW l) = .p _ :: .p _ :: encW l
   simp only [FV.fzL,FV.fz,fz_W d ys l]
theorem encW_len : ∀ l,(encW l).length = l.length * 2
 | [] => rfl
 | q :: l => by
   show (encW l).length + 1 + 1 = (l.length + 1) * 2
   rw [encW_len l]; omega
theorem encW_app (l m : List (Nat × Nat)) : encW (l ++ m) = encW l ++ encW m := by simp [encW]
theorem take_W (W : List (Nat × Nat)) (p : Nat × Nat) : (encW (W ++ [p])).take (W.length * 2) = encW W := by
 rw [encW_app,← encW_len,List.take_left]
theorem hasO_eqW {objs : List (Nat × List FV)} {o : Nat} {l0 l : List FV} (h : Qv.getObj objs o = some l0) (e : l0 = l) : ∃ ys,Qv.getObj objs o = some ys ∧ ys.length = l.length ∧ ∀ (i : Nat) (x y : FV),ys[i]? = some x → l[i]? = some y → Weak x y :=
 hO1 (e ▸ h)
abbrev coT (a : List Atom) (c : Nat) : List (Nat × FV) := [(0,.p (.sl (encOnes a))),(3,.ptr 3 0),(5,.ptr 5 0),(6,.ptr 6 0),(7,.ptr 7 0),(8,.ptr 8 0),(41,.p (.int .i64 c))]
abbrev coT2 (a : List Atom) : List (Nat × FV) := [(0,.p (.sl (encOnes a))),(3,.ptr 3 0),(5,.ptr 5 0),(6,.ptr 6 0),(7,.ptr 7 0),(8,.ptr 8 0),(9,.ptr 2009 0)]
abbrev coA (a : List Atom) (cb : UInt8) : List (Nat × FV) := [(0,.yld 1000000),(1,.ptr 1004 0),(2,.p (.imp [.sl (encOnes a)])),(3,.p (.imp [.int .u8 cb.toNat]))]
abbrev coB (b : List Atom) (cb : UInt8) : List (Nat × FV) := [(0,.yld 1000001),(1,.ptr 3004 0),(2,.p (.imp [.sl (encOnes b)])),(3,.p (.imp [.int .u8 cb.toNat]))]
abbrev coO (b : List Atom) (p : Nat × Nat) (c : Nat) (W : List (Nat × Nat)) : List (Nat × List FV) := [(3,[.p (.sl (encOnes b))]),(5,[.mapr 12]),(6,[.osl 16 188 2]),(7,[.p (.int .i64 (p.1 : Int)),.p (.int .i64 (p.2 : Int))]),(8,[.p (.int .i64 c)]),(16,encW W)]
def inner (b : List Atom) (cb : UInt8) (p : Nat × Nat) (k1 : Nat) (met : List (Nat × Nat)) : Prop := ∀ i,p.1 ≤ i → i < k1 → ∀ j,stepP b cb p.2 j → (i,j) ∈ met
def bytesDone (a b : List Atom) (p : Nat × Nat) (c : Nat) (met : List (Nat × Nat)) : Prop := ∀ d : UInt8,d.toNat < c → d ≠ 47 → ∀ i j,stepP a d p.1 i → stepP b d p.2 j → (i,j) ∈ met
set_option maxRecDepth 100000 in
set_option maxHeartbeats 100000000 in
theorem common_ok (a b : List Atom) (ha : a.length ≤ 2 ^ 20) (hb : b.length ≤ 2 ^ 20) (hfa : ∀ x,x ∈ a → x.fine) (hfb : ∀ x,x ∈ b → x.fine) :
 CallsTo C 163 [.sl (encOnes a),.sl (encOnes b)] (fun r => ∃ t : Bool,r = .val (.bool t) ∧ (t = true ↔ commonP a b)) := by
 refine callsTo_of_evO ⟨[16,71],[],false,[187],[],[]⟩ [1,3,5,8,14,17] Tryz.func163 rfl rfl rfl ?_
 have hla : ((encOnes a).length : Int) = (a.length : Int) := by simp [encOnes]
 have hlb : ((encOnes b).length : Int) = (b.length : Int) := by simp [encOnes]
 refine ⟨_,Weaken.refl _,?_⟩
 refine ⟨[.int .i64,.int .i64],by kernel_rfl,rfl,(fun p hp => by cases hp),_,(upd_pr (0,0) [] (by simp)),?_⟩
 refine loopW 74 0 (fun _ : List (Nat × Nat) × List (Nat × Nat) => [(0,.p (.sl (encOnes a))),(3,.ptr 3 0),(5,.ptr 5 0),(6,.ptr 6 0)]) (fun x => [(3,[.p (.sl (encOnes b))]),(5,[.mapr 12]),(6,[.osl 16 188 2]),(16,encW x.2)]) (fun _ => []) [] (fun _ => []) (fun x => [(12,prF x.1)]) (fun _ => [])
  (fun x => CoO a b x.1 x.2) (fun x => 2 * ((a.length + 1) * (b.length + 1) - x.1.length) + x.2.length) ([(0,0)],[(0,0)]) (CoO.start a b) rfl ⟨wR,wR,wR,wR,trivial⟩ ⟨hO1 rfl,hO1 rfl,hO1 rfl,hO1 rfl,trivial⟩ trivial trivial ⟨hasM_eq rfl (by simp only [kill_pr,fz_pr]; rfl),trivial⟩ trivial ?_
 rintro ⟨met,work⟩ hI
 have hI : CoO a b met work := hI
 have hml := met_len hI.nd hI.rp
 refine ⟨_,Weaken.refl _,?_⟩
 refine ⟨work.length,encW_len work,?_⟩
 refine al_dec (fun hgt => ?_) (fun hgt => ?_)
 case refine_2 =>
  have hw0 : work = [] := List.length_eq_zero_iff.1 (by have : ¬ (work.length : Int) > 0 := hgt; omega)
  refine ⟨false,rfl,by simp,fun h => absurd h (common_none hI.zero fun q hq => ?_)⟩
  rcases hI.proc q hq with h1 | h1
  ·rw [hw0] at h1; cases h1
  ·exact h1
 obtain ⟨W,p,rfl⟩ : ∃ W p,work = W ++ [p] := by
  have hne : work ≠ [] := fun e => by rw [e] at hgt; exact absurd hgt (by decide)
  exact ⟨work.dropLast,work.getLast hne,(List.dropLast_concat_getLast hne).symm⟩
 have hWl : (W ++ [p]).length = W.length + 1 := by simp
 have hwl := hI.wl
 have hbig : (a.length + 1) * (b.length + 1) ≤ (2 ^ 20 + 1) * (2 ^ 20 + 1) := Nat.mul_le_mul (by omega) (by omega)
 have hCo := hI.take
 have hp := rp_le (hI.rp p (hI.sub p (by simp)))
 have hpr := hI.rp p (hI.sub p (by simp))
 have hsub : IntKind.i64.wrap (((W ++ [p]).length : Int) - 1) = (W.length : Int) := by rw [hWl,wrap64 (by omega) (by omega)]; omega
 refine ⟨(W ++ [p]).length,encW_len _,?_⟩
 refine ⟨_,hsub,?_⟩
 refine ⟨W.length,W.length * 2,rfl,rfl,by rw [encW_len,hWl]; omega,?_⟩
 refine ⟨encW W,[.p (.int .i64 (p.1 : Int)),.p (.int .i64 (p.2 : Int))],[],by rw [encW_app]; rfl,encW_len W,?_⟩
 refine ⟨_,Weaken.refl _,?_⟩
 refine ⟨(W ++ [p]).length,by rw [kill_W,encW_len],?_⟩
 refine ⟨_,hsub,?_⟩
 refine ⟨W.length,(W ++ [p]).length,rfl,by rw [kill_W,encW_len],by omega,encW W,by rw [kill_W,take_W,kill_W],?_⟩
 refine ⟨none,?_⟩
 refine ⟨_,(ended_ok a p.1 (by omega) (by omega)).opn,fun r hr => ?_⟩
 subst hr
 refine share (T := ¬ (endedF a p.1 = true ∧ endedF b p.2 = true) → ?T) (fun H => ?main) ?rest
 case main =>
  cases h1 : endedF a p.1 with
  | false =>
    refine cutW 74 0 [(0,.p (.sl (encOnes a))),(3,.ptr 3 0),(5,.ptr 5 0),(6,.ptr 6 0),(7,.ptr 7 0)] [(3,[.p (.sl (encOnes b))]),(5,[.mapr 12]),(6,[.osl 16 188 2]),(7,[.p (.int .i64 (p.1 : Int)),.p (.int .i64 (p.2 : Int))]),(16,encW W)] [] [] [] [(12,prF met)] [] rfl ⟨wR,wR,wR,wR,wR,trivial⟩ ⟨hO1 rfl,hO1 rfl,hO1 rfl,hO1 rfl,hasO_eqW rfl (by simp only [kill_W,fz_W]),trivial⟩ trivial trivial ⟨hasM_eq rfl (by simp only [kill_pr,fz_pr]),trivial⟩ trivial ?_
    exact H.out (fun h => by rw [h1] at h; cases h.1)
  | true =>
    refine ⟨_,(ended_ok b p.2 (by omega) (by omega)).opn,fun r hr => ?_⟩
    subst hr
    cases h2 : endedF b p.2 with
    | true => exact ⟨true,rfl,fun _ => common_of hpr h1 h2,fun _ => rfl⟩
    | false =>
      refine cutW 74 0 [(0,.p (.sl (encOnes a))),(3,.ptr 3 0),(5,.ptr 5 0),(6,.ptr 6 0),(7,.ptr 7 0)] [(3,[.p (.sl (encOnes b))]),(5,[.mapr 12]),(6,[.osl 16 188 2]),(7,[.p (.int .i64 (p.1 : Int)),.p (.int .i64 (p.2 : Int))]),(16,encW W)] [] [] [] [(12,prF met)] [] rfl ⟨wR,wR,wR,wR,wR,trivial⟩ ⟨hO1 rfl,hO1 rfl,hO1 rfl,hO1 rfl,hasO_eqW rfl (by simp only [kill_W,fz_W]),trivial⟩ trivial trivial ⟨hasM_eq rfl (by simp only [kill_pr,fz_pr]),trivial⟩ trivial ?_
      exact H.out (fun h => by rw [h2] at h; cases h.2)
 case rest =>
 intro hne
 refine loopW 74 0 (fun x : Nat × List (Nat × Nat) × List (Nat × Nat) => [(0,.p (.sl (encOnes a))),(3,.ptr 3 0),(5,.ptr 5 0),(6,.ptr 6 0),(7,.ptr 7 0),(41,.p (.int .i64 x.1))]) (fun x => [(3,[.p (.sl (encOnes b))]),(5,[.mapr 12]),(6,[.osl 16 188 2]),(7,[.p (.int .i64 (p.1 : Int)),.p (.int .i64 (p.2 : Int))]),(16,encW x.2.2)]) (fun _ => []) [] (fun _ => []) (fun x => [(12,prF x.2.1)]) (fun _ => [])
  (fun x => x.1 ≤ 256 ∧ Co a b met W p x.2.1 x.2.2 ∧ bytesDone a b p x.1 x.2.1 ∧ ∀ q,q ∈ met → q ∈ x.2.1) (fun x => 256 - x.1) (0,met,W) ⟨by show 0 ≤ 256; omega,hCo,fun d h => absurd h (Nat.not_lt_zero _),fun q hq => hq⟩ rfl ⟨wR,wR,wR,wR,wR,wR,trivial⟩ ⟨hO1 rfl,hO1 rfl,hO1 rfl,hO1 rfl,hasO_eqW rfl (by simp only [kill_W,fz_W]),trivial⟩ trivial trivial ⟨hasM_eq rfl (by simp only [kill_pr,fz_pr]),trivial⟩ trivial ?_
 rintro ⟨c,metc,Wc⟩ ⟨hc,hCoc,hbc,hsc⟩
 have hc : c ≤ 256 := hc
 have hCoc : Co a b met W p metc Wc := hCoc
 have hbc : bytesDone a b p c metc := hbc
 have hsc : ∀ q,q ∈ met → q ∈ metc := hsc
 have hmm : met.length ≤ metc.length := nodup_len hCo.nd hsc
 have hwc : IntKind.i64.wrap ((c : Int) + 1) = ((c + 1 : Nat) : Int) := by rw [wrap64 (by omega) (by omega)]; omega
 refine al_dec (fun hcl => ?_) (fun hcl => ?_)
 case refine_2 =>
  have hc256 : c = 256 := by
   have : ¬ (c : Int) < 256 := hcl
   omega
  have hback := hCoc.back ⟨hne,fun d hd i j h1 h2 => hbc d (by rw [hc256]; exact d.toNat_lt) hd i j h1 h2⟩
  have hml2 := met_len hCoc.nd hCoc.rp
  have hcnt := hCoc.cnt
  refine roundW (metc,Wc) hback ?_ rfl ⟨wR,wR,wR,wR,trivial⟩ ⟨hO1 rfl,hO1 rfl,hO1 rfl,hasO_eqW rfl (by simp only [kill_W,fz_W]),trivial⟩ trivial trivial ⟨hasM_eq rfl (by simp only [kill_pr,fz_pr]),trivial⟩ trivial
  have hq : Wc.length + met.length = W.length + metc.length := by omega
  show 2 * ((a.length + 1) * (b.length + 1) - metc.length) + Wc.length < 2 * ((a.length + 1) * (b.length + 1) - met.length) + (W ++ [p]).length
  rw [hWl]
  have e1 : metc.length ≤ (a.length + 1) * (b.length + 1) := hml2
  generalize (a.length + 1) * (b.length + 1) = B at e1 ⊢
  omega
 have hclt : c + 1 ≤ 256 := by
  have : (c : Int) < 256 := hcl
  omega
 refine al_eq (fun h47 => ?_) (fun h47 => ?_)
 ·have h47 : c = 47 := by
   have : (c : Int) = 47 := h47
   omega
  refine ⟨_,hwc,?_⟩
  refine roundW (c + 1,metc,Wc) ⟨hclt,hCoc,fun d h5 h6 => ?_,hsc⟩ (by show 256 - (c + 1) < 256 - c; omega) rfl ⟨wR,wR,wR,wR,wR,wR,trivial⟩ ⟨hO1 rfl,hO1 rfl,hO1 rfl,hO1 rfl,hasO_eqW rfl (by simp only [kill_W,fz_W]),trivial⟩ trivial trivial ⟨hasM_eq rfl (by simp only [kill_pr,fz_pr]),trivial⟩ trivial
  have h5 : d.toNat < c + 1 := h5
  refine hbc d ?_ h6
  have : d.toNat ≠ 47 := fun e => h6 (UInt8.toNat.inj e)
  omega
 have h47 : c ≠ 47 := fun e => h47 (show (c : Int) = 47 by omega)
 obtain ⟨cb,hcb⟩ : ∃ cb : UInt8,cb.toNat = c := ⟨UInt8.ofNat c,by rw [UInt8.toNat_ofNat']; omega⟩
 have hcbu : ∀ d : UInt8,d.toNat = c → d = cb := fun d hd => UInt8.toNat.inj (hd.trans hcb.symm)
 have hc47 : cb ≠ 47 := fun e => h47 (by rw [← hcb,e]; rfl)
 have hcv : IntKind.u8.wrap (c : Int) = ((cb.toNat : Nat) : Int) := by rw [wrapU8 (by omega) (by omega),hcb]
 refine ⟨((cb.toNat : Nat) : Int),hcv,?_⟩
 refine .inl ⟨Tryz.f187,Tryz.func187,rfl,rfl,rfl,?_⟩
 refine cutW 8 1000 [(3,.ptr 1003 0),(4,.ptr 1004 0),(5,.ptr 1005 0)] ((1003,[.p (.sl (encOnes a))]) :: (1004,[.p (.int .i64 (p.1 : Int))]) :: (1005,[.p (.int .u8 cb.toNat)]) :: coO b p c Wc) [(74,0,coT a c)] [] [] [(12,prF metc)] [] rfl ⟨wR,wR,wR,trivial⟩ ⟨hO1 rfl,hO1 rfl,hO1 rfl,hO1 rfl,hO1 rfl,hO1 rfl,hO1 rfl,hO1 rfl,hasO_eqW rfl (by simp only [kill_W,fz_W]),trivial⟩ ⟨rfl,⟨wR,wR,wR,wR,wR,wR,wR,trivial⟩,trivial⟩ trivial ⟨hasM_eq rfl (by simp only [kill_pr,fz_pr]),trivial⟩ trivial ?_
 refine ⟨[1003,1005],?_⟩
 refine frz_one (cells := [.p (.sl (encOnes a))]) (ys := [.sl (encOnes a)]) rfl rfl rfl ?_
 refine frz_one (cells := [.p (.int .u8 cb.toNat)]) (ys := [.int .u8 cb.toNat]) rfl rfl rfl ?_
 refine ⟨_,rfl,rfl,rfl,rfl,?_⟩
 refine loopW 31 1000 (fun _ : Nat × List (Nat × Nat) × List (Nat × Nat) => coA a cb) (fun x => (1004,[.p (.int .i64 x.1)]) :: coO b p c x.2.2) (fun _ => [(74,0,coT a c)]) [.ready] (fun _ => []) (fun x => [(12,prF x.2.1)]) (fun _ => [])
  (fun x => p.1 ≤ x.1 ∧ x.1 ≤ a.length ∧ (∀ t,p.1 ≤ t → t < x.1 → starAt a t) ∧ Co a b met W p x.2.1 x.2.2 ∧ bytesDone a b p c x.2.1 ∧ (∀ q,q ∈ met → q ∈ x.2.1) ∧ inner b cb p x.1 x.2.1) (fun x => a.length - x.1) (p.1,metc,Wc)
  ⟨Nat.le_refl _,hp.1,fun t h1 h2 => absurd h1 (by have h2 : t < p.1 := h2; omega),hCoc,hbc,hsc,fun i h1 h2 => absurd h1 (by have h2 : i < p.1 := h2; omega)⟩ rfl ⟨wR,wR,wR,wR,trivial⟩ ⟨hO1 rfl,hO1 rfl,hO1 rfl,hO1 rfl,hO1 rfl,hO1 rfl,hasO_eqW rfl (by simp only [kill_W,fz_W]),trivial⟩ ⟨rfl,⟨wR,wR,wR,wR,wR,wR,wR,trivial⟩,trivial⟩ trivial ⟨hasM_eq rfl (by simp only [kill_pr,fz_pr]),trivial⟩ trivial ?_
 rintro ⟨k1,met1,W1⟩ ⟨g0,g1,g2,hCo1,hb1,hs1,hi1⟩
 have g0 : p.1 ≤ k1 := g0
 have g1 : k1 ≤ a.length := g1
 have g2 : ∀ t,p.1 ≤ t → t < k1 → starAt a t := g2
 have hCo1 : Co a b met W p met1 W1 := hCo1
 have hb1 : bytesDone a b p c met1 := hb1
 have hs1 : ∀ q,q ∈ met → q ∈ met1 := hs1
 have hi1 : inner b cb p k1 met1 := hi1
 have hwk1 : IntKind.i64.wrap ((k1 : Int) + 1) = ((k1 + 1 : Nat) : Int) := by rw [wrap64 (by omega) (by omega)]; omega
 refine al_dec (fun hlt1 => ?_) (fun hge1 => ?_)
 case refine_2 =>
  have hge1 : a.length ≤ k1 := by
   apply Nat.le_of_not_lt
   intro h
   exact hge1 (show (k1 : Int) < ((encOnes a).length : Int) by omega)
  refine ⟨_,hwc,?_⟩
  refine roundW (c + 1,met1,W1) ⟨hclt,hCo1,?_,hs1⟩ (by show 256 - (c + 1) < 256 - c; omega) rfl ⟨wR,wR,wR,wR,wR,wR,trivial⟩ ⟨hO1 rfl,hO1 rfl,hO1 rfl,hO1 rfl,hasO_eqW rfl (by simp only [kill_W,fz_W]),trivial⟩ trivial trivial ⟨hasM_eq rfl (by simp only [kill_pr,fz_pr]),trivial⟩ trivial
  intro d h5 h6 i j h7 h8
  have h5 : d.toNat < c + 1 := h5
  by_cases hdc : d.toNat < c
  ·exact hb1 d hdc h6 i j h7 h8
  ·obtain rfl : d = cb := hcbu d (by omega)
   rcases stepP_at g2 g0 h7 with h | h
   ·exact hi1 i h.1 h.2 j h8
   ·exact (stepP_none hge1 h).elim
 have hlt1 : k1 < a.length := by
  have : (k1 : Int) < ((encOnes a).length : Int) := hlt1
  omega
 refine share (T := ((∀ i,stepP a cb k1 i → i = k1 + 1) ∧ stepP a cb k1 (k1 + 1)) → ?T1) (fun H1 => ?main1) ?rest1
 case main1 =>
  obtain ⟨x1,hx1⟩ : ∃ x,a[k1]? = some x := ⟨_,List.getElem?_eq_getElem hlt1⟩
  have hix1 : (encOnes a)[((k1 : Nat) : Int).toNat]? = some x1.enc := by simp [encOnes,hx1]
  have hfx1 := hfa x1 (List.mem_of_getElem? hx1)
  cases x1 with
  | bad => exact hfx1.elim
  | star =>
    refine ⟨by omega,_,hix1,rfl,?_⟩
    have hst1 : starAt a k1 := ⟨_,hx1,rfl⟩
    have hgo1 : stepP a cb k1 k1 := ⟨k1,_,Nat.le_refl _,fun t h5 h6 => by omega,hx1,.inl ⟨rfl,rfl⟩⟩
    refine cutW 31 1000 (coA a cb) ((1004,[.p (.int .i64 k1)]) :: coO b p c W1) [(74,0,coT a c)] [.ready] [] [(12,prF met1)] [] rfl ⟨wR,wR,wR,wR,trivial⟩ ⟨hO1 rfl,hO1 rfl,hO1 rfl,hO1 rfl,hO1 rfl,hO1 rfl,hasO_eqW rfl (by simp only [kill_W,fz_W]),trivial⟩ ⟨rfl,⟨wR,wR,wR,wR,wR,wR,wR,trivial⟩,trivial⟩ trivial ⟨hasM_eq rfl (by simp only [kill_pr,fz_pr]),trivial⟩ trivial ?_
    refine ⟨rfl,?_⟩
    refine cutW 74 2000 (coT2 a) ((2009,[.p (.int .i64 ((k1 : Nat) : Int))]) :: (1004,[.p (.int .i64 k1)]) :: coO b p c W1) [(31,1000,coA a cb),(74,0,coT a c)] [.busy] [] [(12,prF met1)] [] rfl ⟨wR,wR,wR,wR,wR,wR,wR,trivial⟩ ⟨hO1 rfl,hO1 rfl,hO1 rfl,hO1 rfl,hO1 rfl,hO1 rfl,hO1 rfl,hasO_eqW rfl (by simp only [kill_W,fz_W]),trivial⟩ ⟨rfl,⟨wR,wR,wR,wR,trivial⟩,rfl,⟨wR,wR,wR,wR,wR,wR,wR,trivial⟩,trivial⟩ trivial ⟨hasM_eq rfl (by simp only [kill_pr,fz_pr]),trivial⟩ trivial ?_
    refine ⟨((cb.toNat : Nat) : Int),hcv,?_⟩
    refine .inl ⟨Tryz.f187,Tryz.func187,rfl,rfl,rfl,?_⟩
    refine cutW 8 3000 [(3,.ptr 3003 0),(4,.ptr 3004 0),(5,.ptr 3005 0)] ((3003,[.p (.sl (encOnes b))]) :: (3004,[.p (.int .i64 (p.2 : Int))]) :: (3005,[.p (.int .u8 cb.toNat)]) :: (2009,[.p (.int .i64 ((k1 : Nat) : Int))]) :: (1004,[.p (.int .i64 k1)]) :: coO b p c W1) [(74,2000,coT2 a),(31,1000,coA a cb),(74,0,coT a c)] [.busy] [] [(12,prF met1)] [] rfl ⟨wR,wR,wR,trivial⟩ ⟨hO1 rfl,hO1 rfl,hO1 rfl,hO1 rfl,hO1 rfl,hO1 rfl,hO1 rfl,hO1 rfl,hO1 rfl,hO1 rfl,hasO_eqW rfl (by simp only [kill_W,fz_W]),trivial⟩ ⟨rfl,⟨wR,wR,wR,wR,wR,wR,wR,trivial⟩,rfl,⟨wR,wR,wR,wR,trivial⟩,rfl,⟨wR,wR,wR,wR,wR,wR,wR,trivial⟩,trivial⟩ trivial ⟨hasM_eq rfl (by simp only [kill_pr,fz_pr]),trivial⟩ trivial ?_
    refine ⟨[3003,3005],?_⟩
    refine frz_one (cells := [.p (.sl (encOnes b))]) (ys := [.sl (encOnes b)]) rfl rfl rfl ?_
    refine frz_one (cells := [.p (.int .u8 cb.toNat)]) (ys := [.int .u8 cb.toNat]) rfl rfl rfl ?_
    refine ⟨_,rfl,rfl,rfl,rfl,?_⟩
    refine loopW 31 3000 (fun _ : Nat × List (Nat × Nat) × List (Nat × Nat) => coB b cb) (fun x => (3004,[.p (.int .i64 x.1)]) :: (2009,[.p (.int .i64 ((k1 : Nat) : Int))]) :: (1004,[.p (.int .i64 k1)]) :: coO b p c x.2.2) (fun _ => [(74,2000,coT2 a),(31,1000,coA a cb),(74,0,coT a c)]) [.busy,.ready] (fun _ => []) (fun x => [(12,prF x.2.1)]) (fun _ => [])
     (fun x => p.2 ≤ x.1 ∧ x.1 ≤ b.length ∧ (∀ t,p.2 ≤ t → t < x.1 → starAt b t) ∧ Co a b met W p x.2.1 x.2.2 ∧ (∀ q,q ∈ met1 → q ∈ x.2.1) ∧ (∀ j,p.2 ≤ j → j < x.1 → (k1,j) ∈ x.2.1)) (fun x => b.length - x.1) (p.2,met1,W1)
     ⟨Nat.le_refl _,hp.2,fun t h1 h2 => absurd h1 (by have h2 : t < p.2 := h2; omega),hCo1,fun q hq => hq,fun j h1 h2 => absurd h1 (by have h2 : j < p.2 := h2; omega)⟩ rfl ⟨wR,wR,wR,wR,trivial⟩ ⟨hO1 rfl,hO1 rfl,hO1 rfl,hO1 rfl,hO1 rfl,hO1 rfl,hO1 rfl,hO1 rfl,hasO_eqW rfl (by simp only [kill_W,fz_W]),trivial⟩ ⟨rfl,⟨wR,wR,wR,wR,wR,wR,wR,trivial⟩,rfl,⟨wR,wR,wR,wR,trivial⟩,rfl,⟨wR,wR,wR,wR,wR,wR,wR,trivial⟩,trivial⟩ trivial ⟨hasM_eq rfl (by simp only [kill_pr,fz_pr]),trivial⟩ trivial ?_
    rintro ⟨k2,met2,W2⟩ ⟨f0,f1,f2,hCo2,hs2,hi2⟩
    have f0 : p.2 ≤ k2 := f0
    have f1 : k2 ≤ b.length := f1
    have f2 : ∀ t,p.2 ≤ t → t < k2 → starAt b t := f2
    have hCo2 : Co a b met W p met2 W2 := hCo2
    have hs2 : ∀ q,q ∈ met1 → q ∈ met2 := hs2
    have hi2 : ∀ j,p.2 ≤ j → j < k2 → (k1,j) ∈ met2 := hi2
    have hwk2 : IntKind.i64.wrap ((k2 : Int) + 1) = ((k2 + 1 : Nat) : Int) := by rw [wrap64 (by omega) (by omega)]; omega
    refine al_dec (fun hlt2 => ?_) (fun hge2 => ?_)
    case refine_2 =>
     have hge2 : b.length ≤ k2 := by
      apply Nat.le_of_not_lt
      intro h
      exact hge2 (show (k2 : Int) < ((encOnes b).length : Int) by omega)
     refine al_not ?_
     refine cutW 31 1000 (coA a cb) ((1004,[.p (.int .i64 k1)]) :: coO b p c (W2)) [(74,0,coT a c)] [.ready] [] [(12,prF (met2))] [] rfl ⟨wR,wR,wR,wR,trivial⟩ ⟨hO1 rfl,hO1 rfl,hO1 rfl,hO1 rfl,hO1 rfl,hO1 rfl,hasO_eqW rfl (by simp only [kill_W,fz_W]),trivial⟩ ⟨rfl,⟨wR,wR,wR,wR,wR,wR,wR,trivial⟩,trivial⟩ trivial ⟨hasM_eq rfl (by simp only [kill_pr,fz_pr]),trivial⟩ trivial ?_
     refine ⟨_,hwk1,?_⟩
     refine roundW (k1 + 1,met2,W2) ⟨by show p.1 ≤ k1 + 1; omega,by show k1 + 1 ≤ a.length; omega,fun t h5 h6 => ?_,hCo2,fun d h5 h6 i j h7 h8 => hs2 _ (hb1 d h5 h6 i j h7 h8),fun q hq => hs2 q (hs1 q hq),fun i h5 h6 j h7 => ?_⟩ (by show a.length - (k1 + 1) < a.length - k1; omega) rfl ⟨wR,wR,wR,wR,trivial⟩ ⟨hO1 rfl,hO1 rfl,hO1 rfl,hO1 rfl,hO1 rfl,hO1 rfl,hasO_eqW rfl (by simp only [kill_W,fz_W]),trivial⟩ ⟨rfl,⟨wR,wR,wR,wR,wR,wR,wR,trivial⟩,trivial⟩ trivial ⟨hasM_eq rfl (by simp only [kill_pr,fz_pr]),trivial⟩ trivial
     ·have h6 : t < k1 + 1 := h6
      by_cases ht : t < k1
      ·exact g2 t h5 ht
      ·obtain rfl : t = k1 := by omega
       exact hst1
     ·have h6 : i < k1 + 1 := h6
      by_cases ht : i < k1
      ·exact hs2 _ (hi1 i h5 ht j h7)
      ·have hik : i = k1 := by omega
       rw [hik]
       exact (show ∀ j,stepP b _ p.2 j → (k1,j) ∈ (met2 : List (Nat × Nat)) from (fun j hj => (stepP_at f2 f0 hj).elim (fun h => hi2 j h.1 h.2) (fun h => (stepP_none hge2 h).elim))) j h7
    have hlt2 : k2 < b.length := by
     have : (k2 : Int) < ((encOnes b).length : Int) := hlt2
     omega
    refine share (T := ((∀ j,stepP b cb k2 j → j = k2 + 1) ∧ stepP b cb k2 (k2 + 1)) → ?T2S) (fun H2 => ?main2S) ?rest2S
    case main2S =>
     obtain ⟨x2,hx2⟩ : ∃ x,b[k2]? = some x := ⟨_,List.getElem?_eq_getElem hlt2⟩
     have hix2 : (encOnes b)[((k2 : Nat) : Int).toNat]? = some x2.enc := by simp [encOnes,hx2]
     have hfx2 := hfb x2 (List.mem_of_getElem? hx2)
     cases x2 with
     | bad => exact hfx2.elim
     | star =>
       refine ⟨by omega,_,hix2,rfl,?_⟩
       have hst2 : starAt b k2 := ⟨_,hx2,rfl⟩
       have hgo2 : stepP b cb k2 k2 := ⟨k2,_,Nat.le_refl _,fun t h5 h6 => by omega,hx2,.inl ⟨rfl,rfl⟩⟩
       refine cutW 31 3000 (coB b cb) ((3004,[.p (.int .i64 k2)]) :: (2009,[.p (.int .i64 ((k1 : Nat) : Int))]) :: (1004,[.p (.int .i64 k1)]) :: coO b p c W2) [(74,2000,coT2 a),(31,1000,coA a cb),(74,0,coT a c)] [.busy,.ready] [] [(12,prF met2)] [] rfl ⟨wR,wR,wR,wR,trivial⟩ ⟨hO1 rfl,hO1 rfl,hO1 rfl,hO1 rfl,hO1 rfl,hO1 rfl,hO1 rfl,hO1 rfl,hasO_eqW rfl (by simp only [kill_W,fz_W]),trivial⟩ ⟨rfl,⟨wR,wR,wR,wR,wR,wR,wR,trivial⟩,rfl,⟨wR,wR,wR,wR,trivial⟩,rfl,⟨wR,wR,wR,wR,wR,wR,wR,trivial⟩,trivial⟩ trivial ⟨hasM_eq rfl (by simp only [kill_pr,fz_pr]),trivial⟩ trivial ?_
       refine ⟨rfl,?_⟩
       refine cutW 74 4000 [(5,.ptr 5 0),(6,.ptr 6 0),(11,.ptr 4011 0)] ((4011,[.p (.int .i64 ((k1 : Nat) : Int)),.p (.int .i64 ((k2 : Nat) : Int))]) :: (3004,[.p (.int .i64 k2)]) :: (2009,[.p (.int .i64 ((k1 : Nat) : Int))]) :: (1004,[.p (.int .i64 k1)]) :: coO b p c W2) [(31,3000,coB b cb),(74,2000,coT2 a),(31,1000,coA a cb),(74,0,coT a c)] [.busy,.busy] [] [(12,prF met2)] [] rfl ⟨wR,wR,wR,trivial⟩ ⟨hO1 rfl,hO1 rfl,hO1 rfl,hO1 rfl,hO1 rfl,hO1 rfl,hO1 rfl,hO1 rfl,hO1 rfl,hasO_eqW rfl (by simp only [kill_W,fz_W]),trivial⟩ ⟨rfl,⟨wR,wR,wR,wR,trivial⟩,rfl,⟨wR,wR,wR,wR,wR,wR,wR,trivial⟩,rfl,⟨wR,wR,wR,wR,trivial⟩,rfl,⟨wR,wR,wR,wR,wR,wR,wR,trivial⟩,trivial⟩ trivial ⟨hasM_eq rfl (by simp only [kill_pr,fz_pr]),trivial⟩ trivial ?_
       by_cases hm : ((k1,k2) : Nat × Nat) ∈ met2
       case pos =>
        refine ⟨[.int .i64,.int .i64],by kernel_rfl,rfl,fits_pr met2,some (.p (.bool true)),(find_pr (k1,k2) met2).trans (if_pos hm),?_⟩
        refine al_not ?_
        refine al_not ?_
        refine cutW 31 3000 (coB b cb) ((3004,[.p (.int .i64 k2)]) :: (2009,[.p (.int .i64 ((k1 : Nat) : Int))]) :: (1004,[.p (.int .i64 k1)]) :: coO b p c (W2)) [(74,2000,coT2 a),(31,1000,coA a cb),(74,0,coT a c)] [.busy,.ready] [] [(12,prF (met2))] [] rfl ⟨wR,wR,wR,wR,trivial⟩ ⟨hO1 rfl,hO1 rfl,hO1 rfl,hO1 rfl,hO1 rfl,hO1 rfl,hO1 rfl,hO1 rfl,hasO_eqW rfl (by simp only [kill_W,fz_W]),trivial⟩ ⟨rfl,⟨wR,wR,wR,wR,wR,wR,wR,trivial⟩,rfl,⟨wR,wR,wR,wR,trivial⟩,rfl,⟨wR,wR,wR,wR,wR,wR,wR,trivial⟩,trivial⟩ trivial ⟨hasM_eq rfl (by simp only [kill_pr,fz_pr]),trivial⟩ trivial ?_
        refine ⟨_,hwk2,?_⟩
        refine roundW (k2 + 1,met2,W2) ⟨by show p.2 ≤ k2 + 1; omega,by show k2 + 1 ≤ b.length; omega,fun t h5 h6 => ?_,hCo2,fun q hq => (fun q hq => hq) q (hs2 q hq),fun j h5 h6 => ?_⟩ (by show b.length - (k2 + 1) < b.length - k2; omega) rfl ⟨wR,wR,wR,wR,trivial⟩ ⟨hO1 rfl,hO1 rfl,hO1 rfl,hO1 rfl,hO1 rfl,hO1 rfl,hO1 rfl,hO1 rfl,hasO_eqW rfl (by simp only [kill_W,fz_W]),trivial⟩ ⟨rfl,⟨wR,wR,wR,wR,wR,wR,wR,trivial⟩,rfl,⟨wR,wR,wR,wR,trivial⟩,rfl,⟨wR,wR,wR,wR,wR,wR,wR,trivial⟩,trivial⟩ trivial ⟨hasM_eq rfl (by simp only [kill_pr,fz_pr]),trivial⟩ trivial
        ·have h6 : t < k2 + 1 := h6
         by_cases ht : t < k2
         ·exact f2 t h5 ht
         ·obtain rfl : t = k2 := by omega
          exact hst2
        ·have h6 : j < k2 + 1 := h6
         by_cases ht : j < k2
         ·exact (fun q hq => hq) _ (hi2 j h5 ht)
         ·obtain rfl : j = k2 := by omega
          exact hm
       case neg =>
        refine ⟨[.int .i64,.int .i64],by kernel_rfl,rfl,fits_pr met2,none,(find_pr (k1,k2) met2).trans (if_neg hm),.bool false,by kernel_rfl,?_⟩
        refine al_not ?_
        refine ⟨[.int .i64,.int .i64],by kernel_rfl,rfl,fits_pr met2,_,upd_pr (k1,k2) met2 hm,?_⟩
        have hlen2 := met_len hCo2.nd hCo2.rp
        have hwl2 := hCo2.wl
        refine ⟨W2.length,1,by simp only [kill_W]; exact encW_len W2,rfl,rfl,?_,encW (W2 ++ [(k1,k2)]),by simp only [kill_W]; show FV.killL 16 (encW W2 ++ encW [(k1,k2)]) = _; rw [← encW_app]; exact kill_W 16 _,?_⟩
        ·show (W2.length + 1) * 16 ≤ 140737488355328
         omega
        refine al_not ?_
        refine cutW 31 3000 (coB b cb) ((3004,[.p (.int .i64 k2)]) :: (2009,[.p (.int .i64 ((k1 : Nat) : Int))]) :: (1004,[.p (.int .i64 k1)]) :: coO b p c ((W2 ++ [((k1,k2) : Nat × Nat)]))) [(74,2000,coT2 a),(31,1000,coA a cb),(74,0,coT a c)] [.busy,.ready] [] [(12,prF ((met2 ++ [((k1,k2) : Nat × Nat)])))] [] rfl ⟨wR,wR,wR,wR,trivial⟩ ⟨hO1 rfl,hO1 rfl,hO1 rfl,hO1 rfl,hO1 rfl,hO1 rfl,hO1 rfl,hO1 rfl,hasO_eqW rfl (by simp only [kill_W,fz_W]),trivial⟩ ⟨rfl,⟨wR,wR,wR,wR,wR,wR,wR,trivial⟩,rfl,⟨wR,wR,wR,wR,trivial⟩,rfl,⟨wR,wR,wR,wR,wR,wR,wR,trivial⟩,trivial⟩ trivial ⟨hasM_eq rfl (by simp only [kill_pr,fz_pr]),trivial⟩ trivial ?_
        refine ⟨_,hwk2,?_⟩
        refine roundW (k2 + 1,(met2 ++ [((k1,k2) : Nat × Nat)]),(W2 ++ [((k1,k2) : Nat × Nat)])) ⟨by show p.2 ≤ k2 + 1; omega,by show k2 + 1 ≤ b.length; omega,fun t h5 h6 => ?_,(hCo2.push (rp_step hpr hc47 (stepP_back g2 g0 hgo1) (stepP_back f2 f0 hgo2)) hm),fun q hq => (fun q hq => List.mem_append_left _ hq) q (hs2 q hq),fun j h5 h6 => ?_⟩ (by show b.length - (k2 + 1) < b.length - k2; omega) rfl ⟨wR,wR,wR,wR,trivial⟩ ⟨hO1 rfl,hO1 rfl,hO1 rfl,hO1 rfl,hO1 rfl,hO1 rfl,hO1 rfl,hO1 rfl,hasO_eqW rfl (by simp only [kill_W,fz_W]),trivial⟩ ⟨rfl,⟨wR,wR,wR,wR,wR,wR,wR,trivial⟩,rfl,⟨wR,wR,wR,wR,trivial⟩,rfl,⟨wR,wR,wR,wR,wR,wR,wR,trivial⟩,trivial⟩ trivial ⟨hasM_eq rfl (by simp only [kill_pr,fz_pr]),trivial⟩ trivial
        ·have h6 : t < k2 + 1 := h6
         by_cases ht : t < k2
         ·exact f2 t h5 ht
         ·obtain rfl : t = k2 := by omega
          exact hst2
        ·have h6 : j < k2 + 1 := h6
         by_cases ht : j < k2
         ·exact (fun q hq => List.mem_append_left _ hq) _ (hi2 j h5 ht)
         ·obtain rfl : j = k2 := by omega
          exact (List.mem_append_right _ List.mem_cons_self)
     | any =>
       refine ⟨by omega,_,hix2,rfl,?_⟩
       refine ⟨.lex 6,by kernel_rfl,_,rfl,_,rfl,.p (.imp Atom.any.enc),⟨by omega,_,hix2,rfl,rfl⟩,_,rfl,_,rfl,_,rfl,?_⟩
       refine ⟨_,(any_ok cb).opn,fun r hr => ?_⟩
       subst hr
       cases hq2 : (cb != 47) with
       | false =>
         have hno2 : ∀ j,stepP b cb k2 j → False := fun j hj => by
          have := ((stepP_some hx2 rfl).1 hj).1
          rw [show Atom.fit _ cb = (cb != 47) from rfl,hq2] at this
          cases this
         refine al_not ?_
         refine cutW 31 1000 (coA a cb) ((1004,[.p (.int .i64 k1)]) :: coO b p c (W2)) [(74,0,coT a c)] [.ready] [] [(12,prF (met2))] [] rfl ⟨wR,wR,wR,wR,trivial⟩ ⟨hO1 rfl,hO1 rfl,hO1 rfl,hO1 rfl,hO1 rfl,hO1 rfl,hasO_eqW rfl (by simp only [kill_W,fz_W]),trivial⟩ ⟨rfl,⟨wR,wR,wR,wR,wR,wR,wR,trivial⟩,trivial⟩ trivial ⟨hasM_eq rfl (by simp only [kill_pr,fz_pr]),trivial⟩ trivial ?_
         refine ⟨_,hwk1,?_⟩
         refine roundW (k1 + 1,met2,W2) ⟨by show p.1 ≤ k1 + 1; omega,by show k1 + 1 ≤ a.length; omega,fun t h5 h6 => ?_,hCo2,fun d h5 h6 i j h7 h8 => hs2 _ (hb1 d h5 h6 i j h7 h8),fun q hq => hs2 q (hs1 q hq),fun i h5 h6 j h7 => ?_⟩ (by show a.length - (k1 + 1) < a.length - k1; omega) rfl ⟨wR,wR,wR,wR,trivial⟩ ⟨hO1 rfl,hO1 rfl,hO1 rfl,hO1 rfl,hO1 rfl,hO1 rfl,hasO_eqW rfl (by simp only [kill_W,fz_W]),trivial⟩ ⟨rfl,⟨wR,wR,wR,wR,wR,wR,wR,trivial⟩,trivial⟩ trivial ⟨hasM_eq rfl (by simp only [kill_pr,fz_pr]),trivial⟩ trivial
         ·have h6 : t < k1 + 1 := h6
          by_cases ht : t < k1
          ·exact g2 t h5 ht
          ·obtain rfl : t = k1 := by omega
           exact hst1
         ·have h6 : i < k1 + 1 := h6
          by_cases ht : i < k1
          ·exact hs2 _ (hi1 i h5 ht j h7)
          ·have hik : i = k1 := by omega
           rw [hik]
           exact (show ∀ j,stepP b _ p.2 j → (k1,j) ∈ (met2 : List (Nat × Nat)) from (fun j hj => (stepP_at f2 f0 hj).elim (fun h => hi2 j h.1 h.2) (fun h => (hno2 j h).elim))) j h7
       | true =>
         have hstep2 : ∀ j,stepP b cb k2 j → j = k2 + 1 := fun j hj => ((stepP_some hx2 rfl).1 hj).2
         have hgo2 : stepP b cb k2 (k2 + 1) := (stepP_some hx2 rfl).2 ⟨hq2,rfl⟩
         refine cutW 31 3000 (coB b cb) ((3004,[.p (.int .i64 k2)]) :: (2009,[.p (.int .i64 ((k1 : Nat) : Int))]) :: (1004,[.p (.int .i64 k1)]) :: coO b p c W2) [(74,2000,coT2 a),(31,1000,coA a cb),(74,0,coT a c)] [.busy,.ready] [] [(12,prF met2)] [] rfl ⟨wR,wR,wR,wR,trivial⟩ ⟨hO1 rfl,hO1 rfl,hO1 rfl,hO1 rfl,hO1 rfl,hO1 rfl,hO1 rfl,hO1 rfl,hasO_eqW rfl (by simp only [kill_W,fz_W]),trivial⟩ ⟨rfl,⟨wR,wR,wR,wR,wR,wR,wR,trivial⟩,rfl,⟨wR,wR,wR,wR,trivial⟩,rfl,⟨wR,wR,wR,wR,wR,wR,wR,trivial⟩,trivial⟩ trivial ⟨hasM_eq rfl (by simp only [kill_pr,fz_pr]),trivial⟩ trivial ?_
         exact H2.out ⟨hstep2,hgo2⟩
     | lit d =>
       refine ⟨by omega,_,hix2,rfl,?_⟩
       refine ⟨.lex 6,by kernel_rfl,_,rfl,_,rfl,.p (.imp (Atom.lit d).enc),⟨by omega,_,hix2,rfl,rfl⟩,_,rfl,_,rfl,_,rfl,?_⟩
       refine ⟨_,(lit_ok cb d).opn,fun r hr => ?_⟩
       subst hr
       cases hq2 : (cb == d) with
       | false =>
         have hno2 : ∀ j,stepP b cb k2 j → False := fun j hj => by
          have := ((stepP_some hx2 rfl).1 hj).1
          rw [show Atom.fit _ cb = (cb == d) from rfl,hq2] at this
          cases this
         refine al_not ?_
         refine cutW 31 1000 (coA a cb) ((1004,[.p (.int .i64 k1)]) :: coO b p c (W2)) [(74,0,coT a c)] [.ready] [] [(12,prF (met2))] [] rfl ⟨wR,wR,wR,wR,trivial⟩ ⟨hO1 rfl,hO1 rfl,hO1 rfl,hO1 rfl,hO1 rfl,hO1 rfl,hasO_eqW rfl (by simp only [kill_W,fz_W]),trivial⟩ ⟨rfl,⟨wR,wR,wR,wR,wR,wR,wR,trivial⟩,trivial⟩ trivial ⟨hasM_eq rfl (by simp only [kill_pr,fz_pr]),trivial⟩ trivial ?_
         refine ⟨_,hwk1,?_⟩
         refine roundW (k1 + 1,met2,W2) ⟨by show p.1 ≤ k1 + 1; omega,by show k1 + 1 ≤ a.length; omega,fun t h5 h6 => ?_,hCo2,fun d h5 h6 i j h7 h8 => hs2 _ (hb1 d h5 h6 i j h7 h8),fun q hq => hs2 q (hs1 q hq),fun i h5 h6 j h7 => ?_⟩ (by show a.length - (k1 + 1) < a.length - k1; omega) rfl ⟨wR,wR,wR,wR,trivial⟩ ⟨hO1 rfl,hO1 rfl,hO1 rfl,hO1 rfl,hO1 rfl,hO1 rfl,hasO_eqW rfl (by simp only [kill_W,fz_W]),trivial⟩ ⟨rfl,⟨wR,wR,wR,wR,wR,wR,wR,trivial⟩,trivial⟩ trivial ⟨hasM_eq rfl (by simp only [kill_pr,fz_pr]),trivial⟩ trivial
         ·have h6 : t < k1 + 1 := h6
          by_cases ht : t < k1
          ·exact g2 t h5 ht
          ·obtain rfl : t = k1 := by omega
           exact hst1
         ·have h6 : i < k1 + 1 := h6
          by_cases ht : i < k1
          ·exact hs2 _ (hi1 i h5 ht j h7)
          ·have hik : i = k1 := by omega
           rw [hik]
           exact (show ∀ j,stepP b _ p.2 j → (k1,j) ∈ (met2 : List (Nat × Nat)) from (fun j hj => (stepP_at f2 f0 hj).elim (fun h => hi2 j h.1 h.2) (fun h => (hno2 j h).elim))) j h7
       | true =>
         have hstep2 : ∀ j,stepP b cb k2 j → j = k2 + 1 := fun j hj => ((stepP_some hx2 rfl).1 hj).2
         have hgo2 : stepP b cb k2 (k2 + 1) := (stepP_some hx2 rfl).2 ⟨hq2,rfl⟩
         refine cutW 31 3000 (coB b cb) ((3004,[.p (.int .i64 k2)]) :: (2009,[.p (.int .i64 ((k1 : Nat) : Int))]) :: (1004,[.p (.int .i64 k1)]) :: coO b p c W2) [(74,2000,coT2 a),(31,1000,coA a cb),(74,0,coT a c)] [.busy,.ready] [] [(12,prF met2)] [] rfl ⟨wR,wR,wR,wR,trivial⟩ ⟨hO1 rfl,hO1 rfl,hO1 rfl,hO1 rfl,hO1 rfl,hO1 rfl,hO1 rfl,hO1 rfl,hasO_eqW rfl (by simp only [kill_W,fz_W]),trivial⟩ ⟨rfl,⟨wR,wR,wR,wR,wR,wR,wR,trivial⟩,rfl,⟨wR,wR,wR,wR,trivial⟩,rfl,⟨wR,wR,wR,wR,wR,wR,wR,trivial⟩,trivial⟩ trivial ⟨hasM_eq rfl (by simp only [kill_pr,fz_pr]),trivial⟩ trivial ?_
         exact H2.out ⟨hstep2,hgo2⟩
     | cls set neg =>
       refine ⟨by omega,_,hix2,rfl,?_⟩
       refine ⟨.lex 6,by kernel_rfl,_,rfl,_,rfl,.p (.imp (Atom.cls set neg).enc),⟨by omega,_,hix2,rfl,rfl⟩,_,rfl,_,rfl,_,rfl,?_⟩
       refine ⟨_,(cls_ok cb set neg hfx2).opn,fun r hr => ?_⟩
       subst hr
       cases hq2 : (clsB set neg cb) with
       | false =>
         have hno2 : ∀ j,stepP b cb k2 j → False := fun j hj => by
          have := ((stepP_some hx2 rfl).1 hj).1
          rw [show Atom.fit _ cb = (clsB set neg cb) from rfl,hq2] at this
          cases this
         refine al_not ?_
         refine cutW 31 1000 (coA a cb) ((1004,[.p (.int .i64 k1)]) :: coO b p c (W2)) [(74,0,coT a c)] [.ready] [] [(12,prF (met2))] [] rfl ⟨wR,wR,wR,wR,trivial⟩ ⟨hO1 rfl,hO1 rfl,hO1 rfl,hO1 rfl,hO1 rfl,hO1 rfl,hasO_eqW rfl (by simp only [kill_W,fz_W]),trivial⟩ ⟨rfl,⟨wR,wR,wR,wR,wR,wR,wR,trivial⟩,trivial⟩ trivial ⟨hasM_eq rfl (by simp only [kill_pr,fz_pr]),trivial⟩ trivial ?_
         refine ⟨_,hwk1,?_⟩
         refine roundW (k1 + 1,met2,W2) ⟨by show p.1 ≤ k1 + 1; omega,by show k1 + 1 ≤ a.length; omega,fun t h5 h6 => ?_,hCo2,fun d h5 h6 i j h7 h8 => hs2 _ (hb1 d h5 h6 i j h7 h8),fun q hq => hs2 q (hs1 q hq),fun i h5 h6 j h7 => ?_⟩ (by show a.length - (k1 + 1) < a.length - k1; omega) rfl ⟨wR,wR,wR,wR,trivial⟩ ⟨hO1 rfl,hO1 rfl,hO1 rfl,hO1 rfl,hO1 rfl,hO1 rfl,hasO_eqW rfl (by simp only [kill_W,fz_W]),trivial⟩ ⟨rfl,⟨wR,wR,wR,wR,wR,wR,wR,trivial⟩,trivial⟩ trivial ⟨hasM_eq rfl (by simp only [kill_pr,fz_pr]),trivial⟩ trivial
         ·have h6 : t < k1 + 1 := h6
          by_cases ht : t < k1
          ·exact g2 t h5 ht
          ·obtain rfl : t = k1 := by omega
           exact hst1
         ·have h6 : i < k1 + 1 := h6
          by_cases ht : i < k1
          ·exact hs2 _ (hi1 i h5 ht j h7)
          ·have hik : i = k1 := by omega
           rw [hik]
           exact (show ∀ j,stepP b _ p.2 j → (k1,j) ∈ (met2 : List (Nat × Nat)) from (fun j hj => (stepP_at f2 f0 hj).elim (fun h => hi2 j h.1 h.2) (fun h => (hno2 j h).elim))) j h7
       | true =>
         have hstep2 : ∀ j,stepP b cb k2 j → j = k2 + 1 := fun j hj => ((stepP_some hx2 rfl).1 hj).2
         have hgo2 : stepP b cb k2 (k2 + 1) := (stepP_some hx2 rfl).2 ⟨hq2,rfl⟩
         refine cutW 31 3000 (coB b cb) ((3004,[.p (.int .i64 k2)]) :: (2009,[.p (.int .i64 ((k1 : Nat) : Int))]) :: (1004,[.p (.int .i64 k1)]) :: coO b p c W2) [(74,2000,coT2 a),(31,1000,coA a cb),(74,0,coT a c)] [.busy,.ready] [] [(12,prF met2)] [] rfl ⟨wR,wR,wR,wR,trivial⟩ ⟨hO1 rfl,hO1 rfl,hO1 rfl,hO1 rfl,hO1 rfl,hO1 rfl,hO1 rfl,hO1 rfl,hasO_eqW rfl (by simp only [kill_W,fz_W]),trivial⟩ ⟨rfl,⟨wR,wR,wR,wR,wR,wR,wR,trivial⟩,rfl,⟨wR,wR,wR,wR,trivial⟩,rfl,⟨wR,wR,wR,wR,wR,wR,wR,trivial⟩,trivial⟩ trivial ⟨hasM_eq rfl (by simp only [kill_pr,fz_pr]),trivial⟩ trivial ?_
         exact H2.out ⟨hstep2,hgo2⟩
    case rest2S =>
     rintro ⟨hstep2,hgo2⟩
     refine ⟨_,hwk2,?_⟩
     refine ⟨rfl,?_⟩
     refine cutW 74 4000 [(5,.ptr 5 0),(6,.ptr 6 0),(11,.ptr 4011 0)] ((4011,[.p (.int .i64 ((k1 : Nat) : Int)),.p (.int .i64 (((k2 + 1) : Nat) : Int))]) :: (3004,[.p (.int .i64 k2)]) :: (2009,[.p (.int .i64 ((k1 : Nat) : Int))]) :: (1004,[.p (.int .i64 k1)]) :: coO b p c W2) [(31,3000,coB b cb),(74,2000,coT2 a),(31,1000,coA a cb),(74,0,coT a c)] [.busy,.busy] [] [(12,prF met2)] [] rfl ⟨wR,wR,wR,trivial⟩ ⟨hO1 rfl,hO1 rfl,hO1 rfl,hO1 rfl,hO1 rfl,hO1 rfl,hO1 rfl,hO1 rfl,hO1 rfl,hasO_eqW rfl (by simp only [kill_W,fz_W]),trivial⟩ ⟨rfl,⟨wR,wR,wR,wR,trivial⟩,rfl,⟨wR,wR,wR,wR,wR,wR,wR,trivial⟩,rfl,⟨wR,wR,wR,wR,trivial⟩,rfl,⟨wR,wR,wR,wR,wR,wR,wR,trivial⟩,trivial⟩ trivial ⟨hasM_eq rfl (by simp only [kill_pr,fz_pr]),trivial⟩ trivial ?_
     by_cases hm : ((k1,(k2 + 1)) : Nat × Nat) ∈ met2
     case pos =>
      refine ⟨[.int .i64,.int .i64],by kernel_rfl,rfl,fits_pr met2,some (.p (.bool true)),(find_pr (k1,(k2 + 1)) met2).trans (if_pos hm),?_⟩
      refine al_not ?_
      refine al_not ?_
      refine cutW 31 1000 (coA a cb) ((1004,[.p (.int .i64 k1)]) :: coO b p c (W2)) [(74,0,coT a c)] [.ready] [] [(12,prF (met2))] [] rfl ⟨wR,wR,wR,wR,trivial⟩ ⟨hO1 rfl,hO1 rfl,hO1 rfl,hO1 rfl,hO1 rfl,hO1 rfl,hasO_eqW rfl (by simp only [kill_W,fz_W]),trivial⟩ ⟨rfl,⟨wR,wR,wR,wR,wR,wR,wR,trivial⟩,trivial⟩ trivial ⟨hasM_eq rfl (by simp only [kill_pr,fz_pr]),trivial⟩ trivial ?_
      refine ⟨_,hwk1,?_⟩
      refine roundW (k1 + 1,met2,W2) ⟨by show p.1 ≤ k1 + 1; omega,by show k1 + 1 ≤ a.length; omega,fun t h5 h6 => ?_,hCo2,fun d h5 h6 i j h7 h8 => (fun q hq => (fun q hq => hq) q (hs2 q hq)) _ (hb1 d h5 h6 i j h7 h8),fun q hq => (fun q hq => (fun q hq => hq) q (hs2 q hq)) q (hs1 q hq),fun i h5 h6 j h7 => ?_⟩ (by show a.length - (k1 + 1) < a.length - k1; omega) rfl ⟨wR,wR,wR,wR,trivial⟩ ⟨hO1 rfl,hO1 rfl,hO1 rfl,hO1 rfl,hO1 rfl,hO1 rfl,hasO_eqW rfl (by simp only [kill_W,fz_W]),trivial⟩ ⟨rfl,⟨wR,wR,wR,wR,wR,wR,wR,trivial⟩,trivial⟩ trivial ⟨hasM_eq rfl (by simp only [kill_pr,fz_pr]),trivial⟩ trivial
      ·have h6 : t < k1 + 1 := h6
       by_cases ht : t < k1
       ·exact g2 t h5 ht
       ·obtain rfl : t = k1 := by omega
        exact hst1
      ·have h6 : i < k1 + 1 := h6
       by_cases ht : i < k1
       ·exact (fun q hq => (fun q hq => hq) q (hs2 q hq)) _ (hi1 i h5 ht j h7)
       ·have hik : i = k1 := by omega
        rw [hik]
        exact (show ∀ j,stepP b _ p.2 j → (k1,j) ∈ (met2 : List (Nat × Nat)) from (fun j hj => (stepP_at f2 f0 hj).elim (fun h => (fun q hq => hq) _ (hi2 j h.1 h.2)) (fun h => by rw [hstep2 j h]; exact hm))) j h7
     case neg =>
      refine ⟨[.int .i64,.int .i64],by kernel_rfl,rfl,fits_pr met2,none,(find_pr (k1,(k2 + 1)) met2).trans (if_neg hm),.bool false,by kernel_rfl,?_⟩
      refine al_not ?_
      refine ⟨[.int .i64,.int .i64],by kernel_rfl,rfl,fits_pr met2,_,upd_pr (k1,(k2 + 1)) met2 hm,?_⟩
      have hlen2 := met_len hCo2.nd hCo2.rp
      have hwl2 := hCo2.wl
      refine ⟨W2.length,1,by simp only [kill_W]; exact encW_len W2,rfl,rfl,?_,encW (W2 ++ [(k1,(k2 + 1))]),by simp only [kill_W]; show FV.killL 16 (encW W2 ++ encW [(k1,(k2 + 1))]) = _; rw [← encW_app]; exact kill_W 16 _,?_⟩
      ·show (W2.length + 1) * 16 ≤ 140737488355328
       omega
      refine al_not ?_
      refine cutW 31 1000 (coA a cb) ((1004,[.p (.int .i64 k1)]) :: coO b p c ((W2 ++ [((k1,(k2 + 1)) : Nat × Nat)]))) [(74,0,coT a c)] [.ready] [] [(12,prF ((met2 ++ [((k1,(k2 + 1)) : Nat × Nat)])))] [] rfl ⟨wR,wR,wR,wR,trivial⟩ ⟨hO1 rfl,hO1 rfl,hO1 rfl,hO1 rfl,hO1 rfl,hO1 rfl,hasO_eqW rfl (by simp only [kill_W,fz_W]),trivial⟩ ⟨rfl,⟨wR,wR,wR,wR,wR,wR,wR,trivial⟩,trivial⟩ trivial ⟨hasM_eq rfl (by simp only [kill_pr,fz_pr]),trivial⟩ trivial ?_
      refine ⟨_,hwk1,?_⟩
      refine roundW (k1 + 1,(met2 ++ [((k1,(k2 + 1)) : Nat × Nat)]),(W2 ++ [((k1,(k2 + 1)) : Nat × Nat)])) ⟨by show p.1 ≤ k1 + 1; omega,by show k1 + 1 ≤ a.length; omega,fun t h5 h6 => ?_,(hCo2.push (rp_step hpr hc47 (stepP_back g2 g0 hgo1) (stepP_back f2 f0 hgo2)) hm),fun d h5 h6 i j h7 h8 => (fun q hq => (fun q hq => List.mem_append_left _ hq) q (hs2 q hq)) _ (hb1 d h5 h6 i j h7 h8),fun q hq => (fun q hq => (fun q hq => List.mem_append_left _ hq) q (hs2 q hq)) q (hs1 q hq),fun i h5 h6 j h7 => ?_⟩ (by show a.length - (k1 + 1) < a.length - k1; omega) rfl ⟨wR,wR,wR,wR,trivial⟩ ⟨hO1 rfl,hO1 rfl,hO1 rfl,hO1 rfl,hO1 rfl,hO1 rfl,hasO_eqW rfl (by simp only [kill_W,fz_W]),trivial⟩ ⟨rfl,⟨wR,wR,wR,wR,wR,wR,wR,trivial⟩,trivial⟩ trivial ⟨hasM_eq rfl (by simp only [kill_pr,fz_pr]),trivial⟩ trivial
      ·have h6 : t < k1 + 1 := h6
       by_cases ht : t < k1
       ·exact g2 t h5 ht
       ·obtain rfl : t = k1 := by omega
        exact hst1
      ·have h6 : i < k1 + 1 := h6
       by_cases ht : i < k1
       ·exact (fun q hq => (fun q hq => List.mem_append_left _ hq) q (hs2 q hq)) _ (hi1 i h5 ht j h7)
       ·have hik : i = k1 := by omega
        rw [hik]
        exact (show ∀ j,stepP b _ p.2 j → (k1,j) ∈ ((met2 ++ [((k1,(k2 + 1)) : Nat × Nat)]) : List (Nat × Nat)) from (fun j hj => (stepP_at f2 f0 hj).elim (fun h => (fun q hq => List.mem_append_left _ hq) _ (hi2 j h.1 h.2)) (fun h => by rw [hstep2 j h]; exact (List.mem_append_right _ List.mem_cons_self)))) j h7
  | any =>
    refine ⟨by omega,_,hix1,rfl,?_⟩
    refine ⟨.lex 6,by kernel_rfl,_,rfl,_,rfl,.p (.imp Atom.any.enc),⟨by omega,_,hix1,rfl,rfl⟩,_,rfl,_,rfl,_,rfl,?_⟩
    refine ⟨_,(any_ok cb).opn,fun r hr => ?_⟩
    subst hr
    cases hq1 : (cb != 47) with
    | false =>
      have hno1 : ∀ i,stepP a cb k1 i → False := fun i hi => by
       have := ((stepP_some hx1 rfl).1 hi).1
       rw [show Atom.fit _ cb = (cb != 47) from rfl,hq1] at this
       cases this
      refine ⟨_,hwc,?_⟩
      refine roundW (c + 1,met1,W1) ⟨hclt,hCo1,?_,hs1⟩ (by show 256 - (c + 1) < 256 - c; omega) rfl ⟨wR,wR,wR,wR,wR,wR,trivial⟩ ⟨hO1 rfl,hO1 rfl,hO1 rfl,hO1 rfl,hasO_eqW rfl (by simp only [kill_W,fz_W]),trivial⟩ trivial trivial ⟨hasM_eq rfl (by simp only [kill_pr,fz_pr]),trivial⟩ trivial
      intro d h5 h6 i j h7 h8
      have h5 : d.toNat < c + 1 := h5
      by_cases hdc : d.toNat < c
      ·exact hb1 d hdc h6 i j h7 h8
      ·obtain rfl : d = cb := hcbu d (by omega)
       rcases stepP_at g2 g0 h7 with h | h
       ·exact hi1 i h.1 h.2 j h8
       ·exact (hno1 i h).elim
    | true =>
      have hstep1 : ∀ i,stepP a cb k1 i → i = k1 + 1 := fun i hi => ((stepP_some hx1 rfl).1 hi).2
      have hgo1 : stepP a cb k1 (k1 + 1) := (stepP_some hx1 rfl).2 ⟨hq1,rfl⟩
      refine cutW 31 1000 (coA a cb) ((1004,[.p (.int .i64 k1)]) :: coO b p c W1) [(74,0,coT a c)] [.ready] [] [(12,prF met1)] [] rfl ⟨wR,wR,wR,wR,trivial⟩ ⟨hO1 rfl,hO1 rfl,hO1 rfl,hO1 rfl,hO1 rfl,hO1 rfl,hasO_eqW rfl (by simp only [kill_W,fz_W]),trivial⟩ ⟨rfl,⟨wR,wR,wR,wR,wR,wR,wR,trivial⟩,trivial⟩ trivial ⟨hasM_eq rfl (by simp only [kill_pr,fz_pr]),trivial⟩ trivial ?_
      exact H1.out ⟨hstep1,hgo1⟩
  | lit d =>
    refine ⟨by omega,_,hix1,rfl,?_⟩
    refine ⟨.lex 6,by kernel_rfl,_,rfl,_,rfl,.p (.imp (Atom.lit d).enc),⟨by omega,_,hix1,rfl,rfl⟩,_,rfl,_,rfl,_,rfl,?_⟩
    refine ⟨_,(lit_ok cb d).opn,fun r hr => ?_⟩
    subst hr
    cases hq1 : (cb == d) with
    | false =>
      have hno1 : ∀ i,stepP a cb k1 i → False := fun i hi => by
       have := ((stepP_some hx1 rfl).1 hi).1
       rw [show Atom.fit _ cb = (cb == d) from rfl,hq1] at this
       cases this
      refine ⟨_,hwc,?_⟩
      refine roundW (c + 1,met1,W1) ⟨hclt,hCo1,?_,hs1⟩ (by show 256 - (c + 1) < 256 - c; omega) rfl ⟨wR,wR,wR,wR,wR,wR,trivial⟩ ⟨hO1 rfl,hO1 rfl,hO1 rfl,hO1 rfl,hasO_eqW rfl (by simp only [kill_W,fz_W]),trivial⟩ trivial trivial ⟨hasM_eq rfl (by simp only [kill_pr,fz_pr]),trivial⟩ trivial
      intro d h5 h6 i j h7 h8
      have h5 : d.toNat < c + 1 := h5
      by_cases hdc : d.toNat < c
      ·exact hb1 d hdc h6 i j h7 h8
      ·obtain rfl : d = cb := hcbu d (by omega)
       rcases stepP_at g2 g0 h7 with h | h
       ·exact hi1 i h.1 h.2 j h8
       ·exact (hno1 i h).elim
    | true =>
      have hstep1 : ∀ i,stepP a cb k1 i → i = k1 + 1 := fun i hi => ((stepP_some hx1 rfl).1 hi).2
      have hgo1 : stepP a cb k1 (k1 + 1) := (stepP_some hx1 rfl).2 ⟨hq1,rfl⟩
      refine cutW 31 1000 (coA a cb) ((1004,[.p (.int .i64 k1)]) :: coO b p c W1) [(74,0,coT a c)] [.ready] [] [(12,prF met1)] [] rfl ⟨wR,wR,wR,wR,trivial⟩ ⟨hO1 rfl,hO1 rfl,hO1 rfl,hO1 rfl,hO1 rfl,hO1 rfl,hasO_eqW rfl (by simp only [kill_W,fz_W]),trivial⟩ ⟨rfl,⟨wR,wR,wR,wR,wR,wR,wR,trivial⟩,trivial⟩ trivial ⟨hasM_eq rfl (by simp only [kill_pr,fz_pr]),trivial⟩ trivial ?_
      exact H1.out ⟨hstep1,hgo1⟩
  | cls set neg =>
    refine ⟨by omega,_,hix1,rfl,?_⟩
    refine ⟨.lex 6,by kernel_rfl,_,rfl,_,rfl,.p (.imp (Atom.cls set neg).enc),⟨by omega,_,hix1,rfl,rfl⟩,_,rfl,_,rfl,_,rfl,?_⟩
    refine ⟨_,(cls_ok cb set neg hfx1).opn,fun r hr => ?_⟩
    subst hr
    cases hq1 : (clsB set neg cb) with
    | false =>
      have hno1 : ∀ i,stepP a cb k1 i → False := fun i hi => by
       have := ((stepP_some hx1 rfl).1 hi).1
       rw [show Atom.fit _ cb = (clsB set neg cb) from rfl,hq1] at this
       cases this
      refine ⟨_,hwc,?_⟩
      refine roundW (c + 1,met1,W1) ⟨hclt,hCo1,?_,hs1⟩ (by show 256 - (c + 1) < 256 - c; omega) rfl ⟨wR,wR,wR,wR,wR,wR,trivial⟩ ⟨hO1 rfl,hO1 rfl,hO1 rfl,hO1 rfl,hasO_eqW rfl (by simp only [kill_W,fz_W]),trivial⟩ trivial trivial ⟨hasM_eq rfl (by simp only [kill_pr,fz_pr]),trivial⟩ trivial
      intro d h5 h6 i j h7 h8
      have h5 : d.toNat < c + 1 := h5
      by_cases hdc : d.toNat < c
      ·exact hb1 d hdc h6 i j h7 h8
      ·obtain rfl : d = cb := hcbu d (by omega)
       rcases stepP_at g2 g0 h7 with h | h
       ·exact hi1 i h.1 h.2 j h8
       ·exact (hno1 i h).elim
    | true =>
      have hstep1 : ∀ i,stepP a cb k1 i → i = k1 + 1 := fun i hi => ((stepP_some hx1 rfl).1 hi).2
      have hgo1 : stepP a cb k1 (k1 + 1) := (stepP_some hx1 rfl).2 ⟨hq1,rfl⟩
      refine cutW 31 1000 (coA a cb) ((1004,[.p (.int .i64 k1)]) :: coO b p c W1) [(74,0,coT a c)] [.ready] [] [(12,prF met1)] [] rfl ⟨wR,wR,wR,wR,trivial⟩ ⟨hO1 rfl,hO1 rfl,hO1 rfl,hO1 rfl,hO1 rfl,hO1 rfl,hasO_eqW rfl (by simp only [kill_W,fz_W]),trivial⟩ ⟨rfl,⟨wR,wR,wR,wR,wR,wR,wR,trivial⟩,trivial⟩ trivial ⟨hasM_eq rfl (by simp only [kill_pr,fz_pr]),trivial⟩ trivial ?_
      exact H1.out ⟨hstep1,hgo1⟩
 case rest1 =>
  rintro ⟨hstep1,hgo1⟩
  refine ⟨_,hwk1,?_⟩
  refine ⟨rfl,?_⟩
  refine cutW 74 2000 (coT2 a) ((2009,[.p (.int .i64 (((k1 + 1) : Nat) : Int))]) :: (1004,[.p (.int .i64 k1)]) :: coO b p c W1) [(31,1000,coA a cb),(74,0,coT a c)] [.busy] [] [(12,prF met1)] [] rfl ⟨wR,wR,wR,wR,wR,wR,wR,trivial⟩ ⟨hO1 rfl,hO1 rfl,hO1 rfl,hO1 rfl,hO1 rfl,hO1 rfl,hO1 rfl,hasO_eqW rfl (by simp only [kill_W,fz_W]),trivial⟩ ⟨rfl,⟨wR,wR,wR,wR,trivial⟩,rfl,⟨wR,wR,wR,wR,wR,wR,wR,trivial⟩,trivial⟩ trivial ⟨hasM_eq rfl (by simp only [kill_pr,fz_pr]),trivial⟩ trivial ?_
  refine ⟨((cb.toNat : Nat) : Int),hcv,?_⟩
  refine .inl ⟨Tryz.f187,Tryz.func187,rfl,rfl,rfl,?_⟩
  refine cutW 8 3000 [(3,.ptr 3003 0),(4,.ptr 3004 0),(5,.ptr 3005 0)] ((3003,[.p (.sl (encOnes b))]) :: (3004,[.p (.int .i64 (p.2 : Int))]) :: (3005,[.p (.int .u8 cb.toNat)]) :: (2009,[.p (.int .i64 (((k1 + 1) : Nat) : Int))]) :: (1004,[.p (.int .i64 k1)]) :: coO b p c W1) [(74,2000,coT2 a),(31,1000,coA a cb),(74,0,coT a c)] [.busy] [] [(12,prF met1)] [] rfl ⟨wR,wR,wR,trivial⟩ ⟨hO1 rfl,hO1 rfl,hO1 rfl,hO1 rfl,hO1 rfl,hO1 rfl,hO1 rfl,hO1 rfl,hO1 rfl,hO1 rfl,hasO_eqW rfl (by simp only [kill_W,fz_W]),trivial⟩ ⟨rfl,⟨wR,wR,wR,wR,wR,wR,wR,trivial⟩,rfl,⟨wR,wR,wR,wR,trivial⟩,rfl,⟨wR,wR,wR,wR,wR,wR,wR,trivial⟩,trivial⟩ trivial ⟨hasM_eq rfl (by simp only [kill_pr,fz_pr]),trivial⟩ trivial ?_
  refine ⟨[3003,3005],?_⟩
  refine frz_one (cells := [.p (.sl (encOnes b))]) (ys := [.sl (encOnes b)]) rfl rfl rfl ?_
  refine frz_one (cells := [.p (.int .u8 cb.toNat)]) (ys := [.int .u8 cb.toNat]) rfl rfl rfl ?_
  refine ⟨_,rfl,rfl,rfl,rfl,?_⟩
  refine loopW 31 3000 (fun _ : Nat × List (Nat × Nat) × List (Nat × Nat) => coB b cb) (fun x => (3004,[.p (.int .i64 x.1)]) :: (2009,[.p (.int .i64 (((k1 + 1) : Nat) : Int))]) :: (1004,[.p (.int .i64 k1)]) :: coO b p c x.2.2) (fun _ => [(74,2000,coT2 a),(31,1000,coA a cb),(74,0,coT a c)]) [.busy,.ready] (fun _ => []) (fun x => [(12,prF x.2.1)]) (fun _ => [])
   (fun x => p.2 ≤ x.1 ∧ x.1 ≤ b.length ∧ (∀ t,p.2 ≤ t → t < x.1 → starAt b t) ∧ Co a b met W p x.2.1 x.2.2 ∧ (∀ q,q ∈ met1 → q ∈ x.2.1) ∧ (∀ j,p.2 ≤ j → j < x.1 → ((k1 + 1),j) ∈ x.2.1)) (fun x => b.length - x.1) (p.2,met1,W1)
   ⟨Nat.le_refl _,hp.2,fun t h1 h2 => absurd h1 (by have h2 : t < p.2 := h2; omega),hCo1,fun q hq => hq,fun j h1 h2 => absurd h1 (by have h2 : j < p.2 := h2; omega)⟩ rfl ⟨wR,wR,wR,wR,trivial⟩ ⟨hO1 rfl,hO1 rfl,hO1 rfl,hO1 rfl,hO1 rfl,hO1 rfl,hO1 rfl,hO1 rfl,hasO_eqW rfl (by simp only [kill_W,fz_W]),trivial⟩ ⟨rfl,⟨wR,wR,wR,wR,wR,wR,wR,trivial⟩,rfl,⟨wR,wR,wR,wR,trivial⟩,rfl,⟨wR,wR,wR,wR,wR,wR,wR,trivial⟩,trivial⟩ trivial ⟨hasM_eq rfl (by simp only [kill_pr,fz_pr]),trivial⟩ trivial ?_
  rintro ⟨k2,met2,W2⟩ ⟨f0,f1,f2,hCo2,hs2,hi2⟩
  have f0 : p.2 ≤ k2 := f0
  have f1 : k2 ≤ b.length := f1
  have f2 : ∀ t,p.2 ≤ t → t < k2 → starAt b t := f2
  have hCo2 : Co a b met W p met2 W2 := hCo2
  have hs2 : ∀ q,q ∈ met1 → q ∈ met2 := hs2
  have hi2 : ∀ j,p.2 ≤ j → j < k2 → ((k1 + 1),j) ∈ met2 := hi2
  have hwk2 : IntKind.i64.wrap ((k2 : Int) + 1) = ((k2 + 1 : Nat) : Int) := by rw [wrap64 (by omega) (by omega)]; omega
  refine al_dec (fun hlt2 => ?_) (fun hge2 => ?_)
  case refine_2 =>
   have hge2 : b.length ≤ k2 := by
    apply Nat.le_of_not_lt
    intro h
    exact hge2 (show (k2 : Int) < ((encOnes b).length : Int) by omega)
   refine ⟨_,hwc,?_⟩
   refine roundW (c + 1,met2,W2) ⟨hclt,hCo2,?_,fun q hq => hs2 q (hs1 q hq)⟩ (by show 256 - (c + 1) < 256 - c; omega) rfl ⟨wR,wR,wR,wR,wR,wR,trivial⟩ ⟨hO1 rfl,hO1 rfl,hO1 rfl,hO1 rfl,hasO_eqW rfl (by simp only [kill_W,fz_W]),trivial⟩ trivial trivial ⟨hasM_eq rfl (by simp only [kill_pr,fz_pr]),trivial⟩ trivial
   intro d h5 h6 i j h7 h8
   have h5 : d.toNat < c + 1 := h5
   by_cases hdc : d.toNat < c
   ·exact hs2 _ (hb1 d hdc h6 i j h7 h8)
   ·obtain rfl : d = cb := hcbu d (by omega)
    rcases stepP_at g2 g0 h7 with h | h
    ·exact hs2 _ (hi1 i h.1 h.2 j h8)
    ·rw [hstep1 i h]
     exact (show ∀ j,stepP b _ p.2 j → (k1 + 1,j) ∈ (met2 : List (Nat × Nat)) from (fun j hj => (stepP_at f2 f0 hj).elim (fun h => hi2 j h.1 h.2) (fun h => (stepP_none hge2 h).elim))) j h8
  have hlt2 : k2 < b.length := by
   have : (k2 : Int) < ((encOnes b).length : Int) := hlt2
   omega
  refine share (T := ((∀ j,stepP b cb k2 j → j = k2 + 1) ∧ stepP b cb k2 (k2 + 1)) → ?T2N) (fun H2 => ?main2N) ?rest2N
  case main2N =>
   obtain ⟨x2,hx2⟩ : ∃ x,b[k2]? = some x := ⟨_,List.getElem?_eq_getElem hlt2⟩
   have hix2 : (encOnes b)[((k2 : Nat) : Int).toNat]? = some x2.enc := by simp [encOnes,hx2]
   have hfx2 := hfb x2 (List.mem_of_getElem? hx2)
   cases x2 with
   | bad => exact hfx2.elim
   | star =>
     refine ⟨by omega,_,hix2,rfl,?_⟩
     have hst2 : starAt b k2 := ⟨_,hx2,rfl⟩
     have hgo2 : stepP b cb k2 k2 := ⟨k2,_,Nat.le_refl _,fun t h5 h6 => by omega,hx2,.inl ⟨rfl,rfl⟩⟩
     refine cutW 31 3000 (coB b cb) ((3004,[.p (.int .i64 k2)]) :: (2009,[.p (.int .i64 (((k1 + 1) : Nat) : Int))]) :: (1004,[.p (.int .i64 k1)]) :: coO b p c W2) [(74,2000,coT2 a),(31,1000,coA a cb),(74,0,coT a c)] [.busy,.ready] [] [(12,prF met2)] [] rfl ⟨wR,wR,wR,wR,trivial⟩ ⟨hO1 rfl,hO1 rfl,hO1 rfl,hO1 rfl,hO1 rfl,hO1 rfl,hO1 rfl,hO1 rfl,hasO_eqW rfl (by simp only [kill_W,fz_W]),trivial⟩ ⟨rfl,⟨wR,wR,wR,wR,wR,wR,wR,trivial⟩,rfl,⟨wR,wR,wR,wR,trivial⟩,rfl,⟨wR,wR,wR,wR,wR,wR,wR,trivial⟩,trivial⟩ trivial ⟨hasM_eq rfl (by simp only [kill_pr,fz_pr]),trivial⟩ trivial ?_
     refine ⟨rfl,?_⟩
     refine cutW 74 4000 [(5,.ptr 5 0),(6,.ptr 6 0),(11,.ptr 4011 0)] ((4011,[.p (.int .i64 (((k1 + 1) : Nat) : Int)),.p (.int .i64 ((k2 : Nat) : Int))]) :: (3004,[.p (.int .i64 k2)]) :: (2009,[.p (.int .i64 (((k1 + 1) : Nat) : Int))]) :: (1004,[.p (.int .i64 k1)]) :: coO b p c W2) [(31,3000,coB b cb),(74,2000,coT2 a),(31,1000,coA a cb),(74,0,coT a c)] [.busy,.busy] [] [(12,prF met2)] [] rfl ⟨wR,wR,wR,trivial⟩ ⟨hO1 rfl,hO1 rfl,hO1 rfl,hO1 rfl,hO1 rfl,hO1 rfl,hO1 rfl,hO1 rfl,hO1 rfl,hasO_eqW rfl (by simp only [kill_W,fz_W]),trivial⟩ ⟨rfl,⟨wR,wR,wR,wR,trivial⟩,rfl,⟨wR,wR,wR,wR,wR,wR,wR,trivial⟩,rfl,⟨wR,wR,wR,wR,trivial⟩,rfl,⟨wR,wR,wR,wR,wR,wR,wR,trivial⟩,trivial⟩ trivial ⟨hasM_eq rfl (by simp only [kill_pr,fz_pr]),trivial⟩ trivial ?_
     by_cases hm : (((k1 + 1),k2) : Nat × Nat) ∈ met2
     case pos =>
      refine ⟨[.int .i64,.int .i64],by kernel_rfl,rfl,fits_pr met2,some (.p (.bool true)),(find_pr ((k1 + 1),k2) met2).trans (if_pos hm),?_⟩
      refine al_not ?_
      refine al_not ?_
      refine cutW 31 3000 (coB b cb) ((3004,[.p (.int .i64 k2)]) :: (2009,[.p (.int .i64 (((k1 + 1) : Nat) : Int))]) :: (1004,[.p (.int .i64 k1)]) :: coO b p c (W2)) [(74,2000,coT2 a),(31,1000,coA a cb),(74,0,coT a c)] [.busy,.ready] [] [(12,prF (met2))] [] rfl ⟨wR,wR,wR,wR,trivial⟩ ⟨hO1 rfl,hO1 rfl,hO1 rfl,hO1 rfl,hO1 rfl,hO1 rfl,hO1 rfl,hO1 rfl,hasO_eqW rfl (by simp only [kill_W,fz_W]),trivial⟩ ⟨rfl,⟨wR,wR,wR,wR,wR,wR,wR,trivial⟩,rfl,⟨wR,wR,wR,wR,trivial⟩,rfl,⟨wR,wR,wR,wR,wR,wR,wR,trivial⟩,trivial⟩ trivial ⟨hasM_eq rfl (by simp only [kill_pr,fz_pr]),trivial⟩ trivial ?_
      refine ⟨_,hwk2,?_⟩
      refine roundW (k2 + 1,met2,W2) ⟨by show p.2 ≤ k2 + 1; omega,by show k2 + 1 ≤ b.length; omega,fun t h5 h6 => ?_,hCo2,fun q hq => (fun q hq => hq) q (hs2 q hq),fun j h5 h6 => ?_⟩ (by show b.length - (k2 + 1) < b.length - k2; omega) rfl ⟨wR,wR,wR,wR,trivial⟩ ⟨hO1 rfl,hO1 rfl,hO1 rfl,hO1 rfl,hO1 rfl,hO1 rfl,hO1 rfl,hO1 rfl,hasO_eqW rfl (by simp only [kill_W,fz_W]),trivial⟩ ⟨rfl,⟨wR,wR,wR,wR,wR,wR,wR,trivial⟩,rfl,⟨wR,wR,wR,wR,trivial⟩,rfl,⟨wR,wR,wR,wR,wR,wR,wR,trivial⟩,trivial⟩ trivial ⟨hasM_eq rfl (by simp only [kill_pr,fz_pr]),trivial⟩ trivial
      ·have h6 : t < k2 + 1 := h6
       by_cases ht : t < k2
       ·exact f2 t h5 ht
       ·obtain rfl : t = k2 := by omega
        exact hst2
      ·have h6 : j < k2 + 1 := h6
       by_cases ht : j < k2
       ·exact (fun q hq => hq) _ (hi2 j h5 ht)
       ·obtain rfl : j = k2 := by omega
        exact hm
     case neg =>
      refine ⟨[.int .i64,.int .i64],by kernel_rfl,rfl,fits_pr met2,none,(find_pr ((k1 + 1),k2) met2).trans (if_neg hm),.bool false,by kernel_rfl,?_⟩
      refine al_not ?_
      refine ⟨[.int .i64,.int .i64],by kernel_rfl,rfl,fits_pr met2,_,upd_pr ((k1 + 1),k2) met2 hm,?_⟩
      have hlen2 := met_len hCo2.nd hCo2.rp
      have hwl2 := hCo2.wl
      refine ⟨W2.length,1,by simp only [kill_W]; exact encW_len W2,rfl,rfl,?_,encW (W2 ++ [((k1 + 1),k2)]),by simp only [kill_W]; show FV.killL 16 (encW W2 ++ encW [((k1 + 1),k2)]) = _; rw [← encW_app]; exact kill_W 16 _,?_⟩
      ·show (W2.length + 1) * 16 ≤ 140737488355328
       omega
      refine al_not ?_
      refine cutW 31 3000 (coB b cb) ((3004,[.p (.int .i64 k2)]) :: (2009,[.p (.int .i64 (((k1 + 1) : Nat) : Int))]) :: (1004,[.p (.int .i64 k1)]) :: coO b p c ((W2 ++ [(((k1 + 1),k2) : Nat × Nat)]))) [(74,2000,coT2 a),(31,1000,coA a cb),(74,0,coT a c)] [.busy,.ready] [] [(12,prF ((met2 ++ [(((k1 + 1),k2) : Nat × Nat)])))] [] rfl ⟨wR,wR,wR,wR,trivial⟩ ⟨hO1 rfl,hO1 rfl,hO1 rfl,hO1 rfl,hO1 rfl,hO1 rfl,hO1 rfl,hO1 rfl,hasO_eqW rfl (by simp only [kill_W,fz_W]),trivial⟩ ⟨rfl,⟨wR,wR,wR,wR,wR,wR,wR,trivial⟩,rfl,⟨wR,wR,wR,wR,trivial⟩,rfl,⟨wR,wR,wR,wR,wR,wR,wR,trivial⟩,trivial⟩ trivial ⟨hasM_eq rfl (by simp only [kill_pr,fz_pr]),trivial⟩ trivial ?_
      refine ⟨_,hwk2,?_⟩
      refine roundW (k2 + 1,(met2 ++ [(((k1 + 1),k2) : Nat × Nat)]),(W2 ++ [(((k1 + 1),k2) : Nat × Nat)])) ⟨by show p.2 ≤ k2 + 1; omega,by show k2 + 1 ≤ b.length; omega,fun t h5 h6 => ?_,(hCo2.push (rp_step hpr hc47 (stepP_back g2 g0 hgo1) (stepP_back f2 f0 hgo2)) hm),fun q hq => (fun q hq => List.mem_append_left _ hq) q (hs2 q hq),fun j h5 h6 => ?_⟩ (by show b.length - (k2 + 1) < b.length - k2; omega) rfl ⟨wR,wR,wR,wR,trivial⟩ ⟨hO1 rfl,hO1 rfl,hO1 rfl,hO1 rfl,hO1 rfl,hO1 rfl,hO1 rfl,hO1 rfl,hasO_eqW rfl (by simp only [kill_W,fz_W]),trivial⟩ ⟨rfl,⟨wR,wR,wR,wR,wR,wR,wR,trivial⟩,rfl,⟨wR,wR,wR,wR,trivial⟩,rfl,⟨wR,wR,wR,wR,wR,wR,wR,trivial⟩,trivial⟩ trivial ⟨hasM_eq rfl (by simp only [kill_pr,fz_pr]),trivial⟩ trivial
      ·have h6 : t < k2 + 1 := h6
       by_cases ht : t < k2
       ·exact f2 t h5 ht
       ·obtain rfl : t = k2 := by omega
        exact hst2
      ·have h6 : j < k2 + 1 := h6
       by_cases ht : j < k2
       ·exact (fun q hq => List.mem_append_left _ hq) _ (hi2 j h5 ht)
       ·obtain rfl : j = k2 := by omega
        exact (List.mem_append_right _ List.mem_cons_self)
   | any =>
     refine ⟨by omega,_,hix2,rfl,?_⟩
     refine ⟨.lex 6,by kernel_rfl,_,rfl,_,rfl,.p (.imp Atom.any.enc),⟨by omega,_,hix2,rfl,rfl⟩,_,rfl,_,rfl,_,rfl,?_⟩
     refine ⟨_,(any_ok cb).opn,fun r hr => ?_⟩
     subst hr
     cases hq2 : (cb != 47) with
     | false =>
       have hno2 : ∀ j,stepP b cb k2 j → False := fun j hj => by
        have := ((stepP_some hx2 rfl).1 hj).1
        rw [show Atom.fit _ cb = (cb != 47) from rfl,hq2] at this
        cases this
       refine ⟨_,hwc,?_⟩
       refine roundW (c + 1,met2,W2) ⟨hclt,hCo2,?_,fun q hq => hs2 q (hs1 q hq)⟩ (by show 256 - (c + 1) < 256 - c; omega) rfl ⟨wR,wR,wR,wR,wR,wR,trivial⟩ ⟨hO1 rfl,hO1 rfl,hO1 rfl,hO1 rfl,hasO_eqW rfl (by simp only [kill_W,fz_W]),trivial⟩ trivial trivial ⟨hasM_eq rfl (by simp only [kill_pr,fz_pr]),trivial⟩ trivial
       intro d h5 h6 i j h7 h8
       have h5 : d.toNat < c + 1 := h5
       by_cases hdc : d.toNat < c
       ·exact hs2 _ (hb1 d hdc h6 i j h7 h8)
       ·obtain rfl : d = cb := hcbu d (by omega)
        rcases stepP_at g2 g0 h7 with h | h
        ·exact hs2 _ (hi1 i h.1 h.2 j h8)
        ·rw [hstep1 i h]
         exact (show ∀ j,stepP b _ p.2 j → (k1 + 1,j) ∈ (met2 : List (Nat × Nat)) from (fun j hj => (stepP_at f2 f0 hj).elim (fun h => hi2 j h.1 h.2) (fun h => (hno2 j h).elim))) j h8
     | true =>
       have hstep2 : ∀ j,stepP b cb k2 j → j = k2 + 1 := fun j hj => ((stepP_some hx2 rfl).1 hj).2
       have hgo2 : stepP b cb k2 (k2 + 1) := (stepP_some hx2 rfl).2 ⟨hq2,rfl⟩
       refine cutW 31 3000 (coB b cb) ((3004,[.p (.int .i64 k2)]) :: (2009,[.p (.int .i64 (((k1 + 1) : Nat) : Int))]) :: (1004,[.p (.int .i64 k1)]) :: coO b p c W2) [(74,2000,coT2 a),(31,1000,coA a cb),(74,0,coT a c)] [.busy,.ready] [] [(12,prF met2)] [] rfl ⟨wR,wR,wR,wR,trivial⟩ ⟨hO1 rfl,hO1 rfl,hO1 rfl,hO1 rfl,hO1 rfl,hO1 rfl,hO1 rfl,hO1 rfl,hasO_eqW rfl (by simp only [kill_W,fz_W]),trivial⟩ ⟨rfl,⟨wR,wR,wR,wR,wR,wR,wR,trivial⟩,rfl,⟨wR,wR,wR,wR,trivial⟩,rfl,⟨wR,wR,wR,wR,wR,wR,wR,trivial⟩,trivial⟩ trivial ⟨hasM_eq rfl (by simp only [kill_pr,fz_pr]),trivial⟩ trivial ?_
       exact H2.out ⟨hstep2,hgo2⟩
   | lit d =>
     refine ⟨by omega,_,hix2,rfl,?_⟩
     refine ⟨.lex 6,by kernel_rfl,_,rfl,_,rfl,.p (.imp (Atom.lit d).enc),⟨by omega,_,hix2,rfl,rfl⟩,_,rfl,_,rfl,_,rfl,?_⟩
     refine ⟨_,(lit_ok cb d).opn,fun r hr => ?_⟩
     subst hr
     cases hq2 : (cb == d) with
     | false =>
       have hno2 : ∀ j,stepP b cb k2 j → False := fun j hj => by
        have := ((stepP_some hx2 rfl).1 hj).1
        rw [show Atom.fit _ cb = (cb == d) from rfl,hq2] at this
        cases this
       refine ⟨_,hwc,?_⟩
       refine roundW (c + 1,met2,W2) ⟨hclt,hCo2,?_,fun q hq => hs2 q (hs1 q hq)⟩ (by show 256 - (c + 1) < 256 - c; omega) rfl ⟨wR,wR,wR,wR,wR,wR,trivial⟩ ⟨hO1 rfl,hO1 rfl,hO1 rfl,hO1 rfl,hasO_eqW rfl (by simp only [kill_W,fz_W]),trivial⟩ trivial trivial ⟨hasM_eq rfl (by simp only [kill_pr,fz_pr]),trivial⟩ trivial
       intro d h5 h6 i j h7 h8
       have h5 : d.toNat < c + 1 := h5
       by_cases hdc : d.toNat < c
       ·exact hs2 _ (hb1 d hdc h6 i j h7 h8)
       ·obtain rfl : d = cb := hcbu d (by omega)
        rcases stepP_at g2 g0 h7 with h | h
        ·exact hs2 _ (hi1 i h.1 h.2 j h8)
        ·rw [hstep1 i h]
         exact (show ∀ j,stepP b _ p.2 j → (k1 + 1,j) ∈ (met2 : List (Nat × Nat)) from (fun j hj => (stepP_at f2 f0 hj).elim (fun h => hi2 j h.1 h.2) (fun h => (hno2 j h).elim))) j h8
     | true =>
       have hstep2 : ∀ j,stepP b cb k2 j → j = k2 + 1 := fun j hj => ((stepP_some hx2 rfl).1 hj).2
       have hgo2 : stepP b cb k2 (k2 + 1) := (stepP_some hx2 rfl).2 ⟨hq2,rfl⟩
       refine cutW 31 3000 (coB b cb) ((3004,[.p (.int .i64 k2)]) :: (2009,[.p (.int .i64 (((k1 + 1) : Nat) : Int))]) :: (1004,[.p (.int .i64 k1)]) :: coO b p c W2) [(74,2000,coT2 a),(31,1000,coA a cb),(74,0,coT a c)] [.busy,.ready] [] [(12,prF met2)] [] rfl ⟨wR,wR,wR,wR,trivial⟩ ⟨hO1 rfl,hO1 rfl,hO1 rfl,hO1 rfl,hO1 rfl,hO1 rfl,hO1 rfl,hO1 rfl,hasO_eqW rfl (by simp only [kill_W,fz_W]),trivial⟩ ⟨rfl,⟨wR,wR,wR,wR,wR,wR,wR,trivial⟩,rfl,⟨wR,wR,wR,wR,trivial⟩,rfl,⟨wR,wR,wR,wR,wR,wR,wR,trivial⟩,trivial⟩ trivial ⟨hasM_eq rfl (by simp only [kill_pr,fz_pr]),trivial⟩ trivial ?_
       exact H2.out ⟨hstep2,hgo2⟩
   | cls set neg =>
     refine ⟨by omega,_,hix2,rfl,?_⟩
     refine ⟨.lex 6,by kernel_rfl,_,rfl,_,rfl,.p (.imp (Atom.cls set neg).enc),⟨by omega,_,hix2,rfl,rfl⟩,_,rfl,_,rfl,_,rfl,?_⟩
     refine ⟨_,(cls_ok cb set neg hfx2).opn,fun r hr => ?_⟩
     subst hr
     cases hq2 : (clsB set neg cb) with
     | false =>
       have hno2 : ∀ j,stepP b cb k2 j → False := fun j hj => by
        have := ((stepP_some hx2 rfl).1 hj).1
        rw [show Atom.fit _ cb = (clsB set neg cb) from rfl,hq2] at this
        cases this
       refine ⟨_,hwc,?_⟩
       refine roundW (c + 1,met2,W2) ⟨hclt,hCo2,?_,fun q hq => hs2 q (hs1 q hq)⟩ (by show 256 - (c + 1) < 256 - c; omega) rfl ⟨wR,wR,wR,wR,wR,wR,trivial⟩ ⟨hO1 rfl,hO1 rfl,hO1 rfl,hO1 rfl,hasO_eqW rfl (by simp only [kill_W,fz_W]),trivial⟩ trivial trivial ⟨hasM_eq rfl (by simp only [kill_pr,fz_pr]),trivial⟩ trivial
       intro d h5 h6 i j h7 h8
       have h5 : d.toNat < c + 1 := h5
       by_cases hdc : d.toNat < c
       ·exact hs2 _ (hb1 d hdc h6 i j h7 h8)
       ·obtain rfl : d = cb := hcbu d (by omega)
        rcases stepP_at g2 g0 h7 with h | h
        ·exact hs2 _ (hi1 i h.1 h.2 j h8)
        ·rw [hstep1 i h]
         exact (show ∀ j,stepP b _ p.2 j → (k1 + 1,j) ∈ (met2 : List (Nat × Nat)) from (fun j hj => (stepP_at f2 f0 hj).elim (fun h => hi2 j h.1 h.2) (fun h => (hno2 j h).elim))) j h8
     | true =>
       have hstep2 : ∀ j,stepP b cb k2 j → j = k2 + 1 := fun j hj => ((stepP_some hx2 rfl).1 hj).2
       have hgo2 : stepP b cb k2 (k2 + 1) := (stepP_some hx2 rfl).2 ⟨hq2,rfl⟩
       refine cutW 31 3000 (coB b cb) ((3004,[.p (.int .i64 k2)]) :: (2009,[.p (.int .i64 (((k1 + 1) : Nat) : Int))]) :: (1004,[.p (.int .i64 k1)]) :: coO b p c W2) [(74,2000,coT2 a),(31,1000,coA a cb),(74,0,coT a c)] [.busy,.ready] [] [(12,prF met2)] [] rfl ⟨wR,wR,wR,wR,trivial⟩ ⟨hO1 rfl,hO1 rfl,hO1 rfl,hO1 rfl,hO1 rfl,hO1 rfl,hO1 rfl,hO1 rfl,hasO_eqW rfl (by simp only [kill_W,fz_W]),trivial⟩ ⟨rfl,⟨wR,wR,wR,wR,wR,wR,wR,trivial⟩,rfl,⟨wR,wR,wR,wR,trivial⟩,rfl,⟨wR,wR,wR,wR,wR,wR,wR,trivial⟩,trivial⟩ trivial ⟨hasM_eq rfl (by simp only [kill_pr,fz_pr]),trivial⟩ trivial ?_
       exact H2.out ⟨hstep2,hgo2⟩
  case rest2N =>
   rintro ⟨hstep2,hgo2⟩
   refine ⟨_,hwk2,?_⟩
   refine ⟨rfl,?_⟩
   refine cutW 74 4000 [(5,.ptr 5 0),(6,.ptr 6 0),(11,.ptr 4011 0)] ((4011,[.p (.int .i64 (((k1 + 1) : Nat) : Int)),.p (.int .i64 (((k2 + 1) : Nat) : Int))]) :: (3004,[.p (.int .i64 k2)]) :: (2009,[.p (.int .i64 (((k1 + 1) : Nat) : Int))]) :: (1004,[.p (.int .i64 k1)]) :: coO b p c W2) [(31,3000,coB b cb),(74,2000,coT2 a),(31,1000,coA a cb),(74,0,coT a c)] [.busy,.busy] [] [(12,prF met2)] [] rfl ⟨wR,wR,wR,trivial⟩ ⟨hO1 rfl,hO1 rfl,hO1 rfl,hO1 rfl,hO1 rfl,hO1 rfl,hO1 rfl,hO1 rfl,hO1 rfl,hasO_eqW rfl (by simp only [kill_W,fz_W]),trivial⟩ ⟨rfl,⟨wR,wR,wR,wR,trivial⟩,rfl,⟨wR,wR,wR,wR,wR,wR,wR,trivial⟩,rfl,⟨wR,wR,wR,wR,trivial⟩,rfl,⟨wR,wR,wR,wR,wR,wR,wR,trivial⟩,trivial⟩ trivial ⟨hasM_eq rfl (by simp only [kill_pr,fz_pr]),trivial⟩ trivial ?_
   by_cases hm : (((k1 + 1),(k2 + 1)) : Nat × Nat) ∈ met2
   case pos =>
    refine ⟨[.int .i64,.int .i64],by kernel_rfl,rfl,fits_pr met2,some (.p (.bool true)),(find_pr ((k1 + 1),(k2 + 1)) met2).trans (if_pos hm),?_⟩
    refine al_not ?_
    refine ⟨_,hwc,?_⟩
    refine roundW (c + 1,met2,W2) ⟨hclt,hCo2,?_,fun q hq => (fun q hq => (fun q hq => hq) q (hs2 q hq)) q (hs1 q hq)⟩ (by show 256 - (c + 1) < 256 - c; omega) rfl ⟨wR,wR,wR,wR,wR,wR,trivial⟩ ⟨hO1 rfl,hO1 rfl,hO1 rfl,hO1 rfl,hasO_eqW rfl (by simp only [kill_W,fz_W]),trivial⟩ trivial trivial ⟨hasM_eq rfl (by simp only [kill_pr,fz_pr]),trivial⟩ trivial
    intro d h5 h6 i j h7 h8
    have h5 : d.toNat < c + 1 := h5
    by_cases hdc : d.toNat < c
    ·exact (fun q hq => (fun q hq => hq) q (hs2 q hq)) _ (hb1 d hdc h6 i j h7 h8)
    ·obtain rfl : d = cb := hcbu d (by omega)
     rcases stepP_at g2 g0 h7 with h | h
     ·exact (fun q hq => (fun q hq => hq) q (hs2 q hq)) _ (hi1 i h.1 h.2 j h8)
     ·rw [hstep1 i h]
      exact (show ∀ j,stepP b _ p.2 j → (k1 + 1,j) ∈ (met2 : List (Nat × Nat)) from (fun j hj => (stepP_at f2 f0 hj).elim (fun h => (fun q hq => hq) _ (hi2 j h.1 h.2)) (fun h => by rw [hstep2 j h]; exact hm))) j h8
   case neg =>
    refine ⟨[.int .i64,.int .i64],by kernel_rfl,rfl,fits_pr met2,none,(find_pr ((k1 + 1),(k2 + 1)) met2).trans (if_neg hm),.bool false,by kernel_rfl,?_⟩
    refine al_not ?_
    refine ⟨[.int .i64,.int .i64],by kernel_rfl,rfl,fits_pr met2,_,upd_pr ((k1 + 1),(k2 + 1)) met2 hm,?_⟩
    have hlen2 := met_len hCo2.nd hCo2.rp
    have hwl2 := hCo2.wl
    refine ⟨W2.length,1,by simp only [kill_W]; exact encW_len W2,rfl,rfl,?_,encW (W2 ++ [((k1 + 1),(k2 + 1))]),by simp only [kill_W]; show FV.killL 16 (encW W2 ++ encW [((k1 + 1),(k2 + 1))]) = _; rw [← encW_app]; exact kill_W 16 _,?_⟩
    ·show (W2.length + 1) * 16 ≤ 140737488355328
     omega
    refine ⟨_,hwc,?_⟩
    refine roundW (c + 1,(met2 ++ [(((k1 + 1),(k2 + 1)) : Nat × Nat)]),(W2 ++ [(((k1 + 1),(k2 + 1)) : Nat × Nat)])) ⟨hclt,(hCo2.push (rp_step hpr hc47 (stepP_back g2 g0 hgo1) (stepP_back f2 f0 hgo2)) hm),?_,fun q hq => (fun q hq => (fun q hq => List.mem_append_left _ hq) q (hs2 q hq)) q (hs1 q hq)⟩ (by show 256 - (c + 1) < 256 - c; omega) rfl ⟨wR,wR,wR,wR,wR,wR,trivial⟩ ⟨hO1 rfl,hO1 rfl,hO1 rfl,hO1 rfl,hasO_eqW rfl (by simp only [kill_W,fz_W]),trivial⟩ trivial trivial ⟨hasM_eq rfl (by simp only [kill_pr,fz_pr]),trivial⟩ trivial
    intro d h5 h6 i j h7 h8
    have h5 : d.toNat < c + 1 := h5
    by_cases hdc : d.toNat < c
    ·exact (fun q hq => (fun q hq => List.mem_append_left _ hq) q (hs2 q hq)) _ (hb1 d hdc h6 i j h7 h8)
    ·obtain rfl : d = cb := hcbu d (by omega)
     rcases stepP_at g2 g0 h7 with h | h
     ·exact (fun q hq => (fun q hq => List.mem_append_left _ hq) q (hs2 q hq)) _ (hi1 i h.1 h.2 j h8)
     ·rw [hstep1 i h]
      exact (show ∀ j,stepP b _ p.2 j → (k1 + 1,j) ∈ ((met2 ++ [(((k1 + 1),(k2 + 1)) : Nat × Nat)]) : List (Nat × Nat)) from (fun j hj => (stepP_at f2 f0 hj).elim (fun h => (fun q hq => List.mem_append_left _ hq) _ (hi2 j h.1 h.2)) (fun h => by rw [hstep2 j h]; exact (List.mem_append_right _ List.mem_cons_self)))) j h8
end Qv

end

section
open Go Go.Proofs Go.RowKit
namespace Qv
theorem ov_fuel {com : List Atom → List Atom → Bool} : ∀ (n m : Nat) (x y : List Comp),x.length + y.length < n → x.length + y.length < m → ovF com n x y = ovF com m x y
 | 0,_,_,_,h,_ => absurd h (Nat.not_lt_zero _)
 | _ + 1,0,_,_,_,h => absurd h (Nat.not_lt_zero _)
 | n + 1,m + 1,[],[],_,_ => rfl
 | n + 1,m + 1,c :: x,[],h1,h2 => by
   simp only [ovF]
   rw [ov_fuel n m x [] (by simp at h1 ⊢; omega) (by simp at h2 ⊢; omega)]
 | n + 1,m + 1,[],d :: y,h1,h2 => by
   simp only [ovF]
   rw [ov_fuel n m [] y (by simp at h1 ⊢; omega) (by simp at h2 ⊢; omega)]
 | n + 1,m + 1,c :: x,d :: y,h1,h2 => by
   simp only [ovF]
   simp only [List.length_cons] at h1 h2
   rw [ov_fuel n m x (d :: y) (by simp; omega) (by simp; omega),ov_fuel n m (c :: x) y (by simp; omega) (by simp; omega),ov_fuel n m x y (by omega) (by omega)]
def ovE (com : List Atom → List Atom → Bool) (x y : List Comp) : Bool := ovF com (x.length + y.length + 1) x y
theorem ovE_nn (com : List Atom → List Atom → Bool) : ovE com [] [] = true := rfl
theorem ovE_cn (com : List Atom → List Atom → Bool) (c : Comp) (x : List Comp) : ovE com (c :: x) [] = (c.deep && ovE com x []) := by
 unfold ovE
 simp only [List.length_cons,ovF]
 rw [ov_fuel _ (x.length + ([] : List Comp).length + 1) x [] (by simp) (by simp)]
theorem ovE_nc (com : List Atom → List Atom → Bool) (d : Comp) (y : List Comp) : ovE com [] (d :: y) = (d.deep && ovE com [] y) := by
 unfold ovE
 simp only [List.length_cons,ovF]
 rw [ov_fuel _ (([] : List Comp).length + y.length + 1) [] y (by simp) (by simp)]
theorem ovE_cc (com : List Atom → List Atom → Bool) (c d : Comp) (x y : List Comp) :
 ovE com (c :: x) (d :: y) = ((c.deep && (ovE com x (d :: y) || ovE com (c :: x) y)) || (d.deep && (ovE com (c :: x) y || ovE com x (d :: y))) || (!c.deep && !d.deep && ovE com x y && com c.ones d.ones)) := by
 unfold ovE
 rw [show (c :: x).length + (d :: y).length + 1 = (x.length + y.length + 2) + 1 from by simp only [List.length_cons]; omega]
 simp only [ovF]
 rw [ov_fuel (x.length + y.length + 2) (x.length + (d :: y).length + 1) x (d :: y) (by simp; omega) (by simp),ov_fuel (x.length + y.length + 2) ((c :: x).length + y.length + 1) (c :: x) y (by simp; omega) (by simp),ov_fuel (x.length + y.length + 2) (x.length + y.length + 1) x y (by omega) (by omega)]
noncomputable def comB (a b : List Atom) : Bool := @decide (commonP a b) (Classical.propDecidable _)
theorem comB_of {a b : List Atom} {t : Bool} (h : t = true ↔ commonP a b) : t = comB a b := by
 unfold comB
 rw [Bool.eq_iff_iff,h]
 simp
noncomputable def overF (g h : Bytes) : Bool := decide ((parseF g).2 = 0) && decide ((parseF h).2 = 0) && ovE comB (parseF g).1 (parseF h).1
theorem parts_noSlash : ∀ (s p : Bytes),p ∈ parts 47 s → noSlash p
 | [],p,h => by
   have : p = [] := by simpa [parts] using h
   subst this
   exact fun c hc => by cases hc
 | d :: s,p,h => by
   have ih := parts_noSlash s
   unfold parts at h
   split at h
   ·rename_i hd
    rcases List.mem_cons.1 h with rfl | h
    ·exact fun c hc => by cases hc
    ·exact ih p h
   ·rename_i hd
    split at h
    ·rename_i hq
     exact absurd hq (parts_ne 47 s)
    ·rename_i q r hq
     rcases List.mem_cons.1 h with rfl | h
     ·intro c hc
      rcases List.mem_cons.1 hc with rfl | hc
      ·exact hd
      ·exact ih q (by rw [hq]; exact List.mem_cons_self) c hc
     ·exact ih p (by rw [hq]; exact List.mem_cons_of_mem _ h)
end Qv

end

section
open Go Go.Proofs Go.RowKit
namespace Qv
def orMask (ms : List Nat) : List Edge → Nat
 | [] => 0
 | e :: es => match Region.binds .any e with
   | true => orMask ms es ||| ((1 <<< e.on) ||| ms.getD e.on 0)
   | false => orMask ms es
def fwdB (j : Nat) : List Edge → Bool
 | [] => true
 | e :: es => match Region.binds .any e with
   | true => match Nat.ble (e.on + 1) j with
     | true => fwdB j es
     | false => false
   | false => fwdB j es
def chkMasks (ms : List Nat) : Nat → List Oper → Bool
 | _,[] => true
 | j,o :: os => match fwdB j o.after.toList with
   | true => match Nat.beq (ms.getD j 0) (orMask ms o.after.toList) with
     | true => chkMasks ms (j + 1) os
     | false => false
   | false => false
def freeRow (ops : Array Oper) (m : Nat) (ms : List Nat) (k : Nat) (o : Oper) : Nat → List Oper → Bool
 | _,[] => true
 | j,oj :: os => match (ms.getD j 0).testBit k with
   | true => freeRow ops m ms k o (j + 1) os
   | false => match Nat.ble (j + 1) m with
     | true => match o.apart ops oj with
       | true => freeRow ops m ms k o (j + 1) os
       | false => false
     | false => false
def chkFree (ops : Array Oper) (m : Nat) (ms : List Nat) : Nat → List Oper → Bool
 | _,[] => true
 | k,o :: os => match Nat.ble (k + 1) m with
   | true => match freeRow ops m ms k o (k + 1) os with
     | true => chkFree ops m ms (k + 1) os
     | false => false
   | false => true
def onPrev (j : Nat) : List Edge → Bool
 | [] => false
 | e :: es => match Region.binds .any e with
   | true => match Nat.beq (e.on + 1) j with
     | true => true
     | false => onPrev j es
   | false => onPrev j es
def chkTail (m : Nat) : Nat → List Oper → Bool
 | _,[] => true
 | j,o :: os => match Nat.ble (m + 1) j with
   | true => match onPrev j o.after.toList with
     | true => chkTail m (j + 1) os
     | false => false
   | false => chkTail m (j + 1) os
def drawFast (ops : Array Oper) (m : Nat) (ms : List Nat) : Bool := match Nat.ble m ops.toList.length with
 | true => match chkMasks ms 0 ops.toList with
   | true => match chkTail m 0 ops.toList with
     | true => chkFree ops m ms 0 ops.toList
     | false => false
   | false => false
 | false => false
theorem orMask_bit {ms : List Nat} {i : Nat} : ∀ {es : List Edge},(orMask ms es).testBit i = true → ∃ e,e ∈ es ∧ Region.binds .any e = true ∧ (e.on = i ∨ (ms.getD e.on 0).testBit i = true)
 | [],h => by simp [orMask] at h
 | e :: es,h => by
   unfold orMask at h
   split at h
   ·rename_i hb
    rw [Nat.testBit_or,Nat.testBit_or,Bool.or_eq_true,Bool.or_eq_true,Nat.one_shiftLeft,Nat.testBit_two_pow] at h
    rcases h with h | h | h
    ·obtain ⟨e',h1,h2⟩ := orMask_bit h
     exact ⟨e',List.mem_cons_of_mem _ h1,h2⟩
    ·exact ⟨e,List.mem_cons_self,hb,.inl (of_decide_eq_true h)⟩
    ·exact ⟨e,List.mem_cons_self,hb,.inr h⟩
   ·obtain ⟨e',h1,h2⟩ := orMask_bit h
    exact ⟨e',List.mem_cons_of_mem _ h1,h2⟩
theorem fwd_lt {j : Nat} : ∀ {es : List Edge},fwdB j es = true → ∀ e,e ∈ es → Region.binds .any e = true → e.on < j
 | [],_,e,he,_ => by cases he
 | e0 :: es,h,e,he,hb => by
   unfold fwdB at h
   split at h
   ·split at h
    ·rename_i h1 h2
     rcases List.mem_cons.1 he with rfl | he
     ·exact Nat.le_of_ble_eq_true h2
     ·exact fwd_lt h e he hb
    ·cases h
   ·rename_i h1
    rcases List.mem_cons.1 he with rfl | he
    ·rw [hb] at h1; cases h1
    ·exact fwd_lt h e he hb
theorem chkMasks_at {ms : List Nat} : ∀ {l : List Oper} {k : Nat},chkMasks ms k l = true → ∀ i o,l[i]? = some o → fwdB (k + i) o.after.toList = true ∧ ms.getD (k + i) 0 = orMask ms o.after.toList
 | [],_,_,i,o,h => by simp at h
 | o0 :: l,k,hc,i,o,h => by
   unfold chkMasks at hc
   split at hc
   ·split at hc
    ·rename_i _ h1 _ h2
     cases i with
     | zero =>
       obtain rfl : o0 = o := by simpa using h
       exact ⟨h1,Nat.eq_of_beq_eq_true h2⟩
     | succ i =>
       have := chkMasks_at hc i o (by simpa using h)
       rw [show k + (i + 1) = k + 1 + i from by omega]
       exact this
    ·cases hc
   ·cases hc
theorem reach_of {ops : Array Oper} {ms : List Nat} (hc : chkMasks ms 0 ops.toList = true) (i : Nat) : ∀ (fuel j : Nat),j < fuel → j < ops.size → (ms.getD j 0).testBit i = true → reachB ops fuel j i = true
 | 0,j,h,_,_ => absurd h (Nat.not_lt_zero _)
 | fuel + 1,j,hj,hs,hb => by
   have ho : ops[j]? = some ops[j] := Array.getElem?_eq_getElem hs
   have hl : ops.toList[j]? = some ops[j] := by rw [Array.getElem?_toList]; exact ho
   obtain ⟨h1,h2⟩ := chkMasks_at hc j _ hl
   rw [Nat.zero_add] at h1 h2
   rw [h2] at hb
   obtain ⟨e,he,heb,hor⟩ := orMask_bit hb
   have hlt := fwd_lt h1 e he heb
   unfold reachB
   rw [ho]
   simp only [List.any_eq_true]
   refine ⟨e,he,?_⟩
   rw [heb,Bool.true_and,Bool.or_eq_true]
   rcases hor with rfl | hor
   ·exact .inl (by simp)
   ·exact .inr (reach_of hc i fuel e.on (by omega) (by omega) hor)
theorem freeRow_at {ops : Array Oper} {m : Nat} {ms : List Nat} {k : Nat} {o : Oper} : ∀ {l : List Oper} {b : Nat},freeRow ops m ms k o b l = true → ∀ i oj,l[i]? = some oj → (ms.getD (b + i) 0).testBit k = true ∨ (b + i < m ∧ o.apart ops oj = true)
 | [],_,_,i,o,h => by simp at h
 | o0 :: l,b,hc,i,oj,h => by
   have key : ((ms.getD b 0).testBit k = true ∨ (b < m ∧ o.apart ops o0 = true)) ∧ freeRow ops m ms k o (b + 1) l = true := by
    unfold freeRow at hc
    split at hc
    ·rename_i h1
     exact ⟨.inl h1,hc⟩
    ·split at hc
     ·split at hc
      ·rename_i _ h1 _ h2 _ h3
       exact ⟨.inr ⟨Nat.le_of_ble_eq_true h2,h3⟩,hc⟩
      ·cases hc
     ·cases hc
   cases i with
   | zero =>
     obtain rfl : o0 = oj := by simpa using h
     exact key.1
   | succ i =>
     have := freeRow_at key.2 i oj (by simpa using h)
     rw [show b + (i + 1) = b + 1 + i from by omega]
     exact this
theorem chkFree_at {ops : Array Oper} {m : Nat} {ms : List Nat} : ∀ {l : List Oper} {b : Nat},chkFree ops m ms b l = true → ∀ i j o oj,b + i < m → i < j → l[i]? = some o → l[j]? = some oj → (ms.getD (b + j) 0).testBit (b + i) = true ∨ (b + j < m ∧ o.apart ops oj = true)
 | [],_,_,i,j,o,oj,_,_,h,_ => by simp at h
 | o0 :: l,b,hc,i,j,o,oj,hm,hij,h,hj => by
   unfold chkFree at hc
   split at hc
   ·split at hc
    ·rename_i h1 h2
     cases j with
     | zero => omega
     | succ j =>
       cases i with
       | zero =>
         obtain rfl : o0 = o := by simpa using h
         have := freeRow_at h2 j oj (by simpa using hj)
         rw [show b + (j + 1) = b + 1 + j from by omega]
         exact this
       | succ i =>
         have := chkFree_at hc i j o oj (by omega) (by omega) (by simpa using h) (by simpa using hj)
         rw [show b + (j + 1) = b + 1 + j from by omega,show b + (i + 1) = b + 1 + i from by omega]
         exact this
    ·cases hc
   ·rename_i h1
    exact absurd (Nat.ble_eq_true_of_le (show b + 1 ≤ m by omega)) (by rw [h1]; decide)
theorem onPrev_at {j : Nat} : ∀ {es : List Edge},onPrev j es = true → ∃ e,e ∈ es ∧ Region.binds .any e = true ∧ e.on + 1 = j
 | [],h => by cases h
 | e :: es,h => by
   unfold onPrev at h
   split at h
   ·split at h
    ·rename_i _ h1 _ h2
     exact ⟨e,List.mem_cons_self,h1,Nat.eq_of_beq_eq_true h2⟩
    ·obtain ⟨e',h1,h2⟩ := onPrev_at h
     exact ⟨e',List.mem_cons_of_mem _ h1,h2⟩
   ·obtain ⟨e',h1,h2⟩ := onPrev_at h
    exact ⟨e',List.mem_cons_of_mem _ h1,h2⟩
theorem chkTail_at {m : Nat} : ∀ {l : List Oper} {b : Nat},chkTail m b l = true → ∀ i o,l[i]? = some o → m < b + i → onPrev (b + i) o.after.toList = true
 | [],_,_,i,o,h,_ => by simp at h
 | o0 :: l,b,hc,i,o,h,hm => by
   have key : (m < b → onPrev b o0.after.toList = true) ∧ chkTail m (b + 1) l = true := by
    unfold chkTail at hc
    split at hc
    ·split at hc
     ·rename_i h1 h2
      exact ⟨fun _ => h2,hc⟩
     ·cases hc
    ·rename_i h1
     exact ⟨fun hlt => absurd (Nat.ble_eq_true_of_le (show m + 1 ≤ b by omega)) (by rw [h1]; decide),hc⟩
   cases i with
   | zero =>
     obtain rfl : o0 = o := by simpa using h
     exact key.1 (by omega)
   | succ i =>
     have := chkTail_at key.2 i o (by simpa using h) (by omega)
     rw [show b + (i + 1) = b + 1 + i from by omega]
     exact this
theorem filter_one {p : Nat → Bool} : ∀ {n k : Nat},k < n → (∀ i,i < n → p i = decide (i = k)) → (List.range n).filter p = [k]
 | 0,_,h,_ => absurd h (Nat.not_lt_zero _)
 | n + 1,k,h,hp => by
   rw [List.range_succ,List.filter_append]
   by_cases hk : k = n
   ·subst hk
    rw [List.filter_eq_nil_iff.2 fun i hi => by
     have hi := List.mem_range.1 hi
     rw [hp i (by omega)]
     simp; omega]
    simp [hp k (by omega)]
   ·rw [filter_one (n := n) (by omega) fun i hi => hp i (by omega)]
    have : p n = false := by rw [hp n (by omega)]; simp; omega
    simp [this]
structure UpTo (ops : Array Oper) (k : Nat) (listed : Array Bool) : Prop where
 size : listed.size = ops.size
 at_ : ∀ i,i < ops.size → listed[i]? = some (decide (i < k))
theorem UpTo.getD {ops : Array Oper} {k : Nat} {listed : Array Bool} (h : UpTo ops k listed) {i : Nat} {d : Bool} (hi : i < ops.size) : listed.getD i d = decide (i < k) := by
 rw [Array.getD_eq_getD_getElem?,h.at_ i hi]
 rfl
theorem UpTo.next {ops : Array Oper} {k : Nat} {listed : Array Bool} (h : UpTo ops k listed) : UpTo ops (k + 1) (listed.setIfInBounds k true) := by
 refine ⟨by simp [h.size],fun i hi => ?_⟩
 rw [Array.getElem?_setIfInBounds]
 by_cases hk : k = i
 ·subst hk
  rw [if_pos rfl,if_pos (by rw [h.size]; exact hi)]
  simp
 ·rw [if_neg hk,h.at_ i hi]
  congr 1
  apply decide_eq_decide.2
  omega
theorem drawFrom_of {ops : Array Oper} {m : Nat} {ms : List Nat} (hc : chkMasks ms 0 ops.toList = true) (hf : chkFree ops m ms 0 ops.toList = true) (ht : chkTail m 0 ops.toList = true) :
 ∀ (fuel k : Nat) (listed : Array Bool),k + fuel = ops.size → UpTo ops k listed → drawFrom ops m fuel k listed = true := by
 have hop : ∀ j,j < ops.size → ∃ o,ops[j]? = some o ∧ ops.toList[j]? = some o := fun j hj => ⟨ops[j],Array.getElem?_eq_getElem hj,by rw [Array.getElem?_toList]; exact Array.getElem?_eq_getElem hj⟩
 have hrd : ∀ (k : Nat) (listed : Array Bool),UpTo ops k listed → ∀ i,i < ops.size → i ≤ k → ((!listed.getD i true) && ((ops[i]?).map (·.after.all fun e => !Region.binds .any e || listed.getD e.on false)).getD false) = decide (i = k) := by
  intro k listed hu i hi hik
  obtain ⟨o,ho,hl⟩ := hop i hi
  rw [hu.getD hi]
  by_cases h : i = k
  ·subst h
   have hall : (o.after.all fun e => !Region.binds .any e || listed.getD e.on false) = true := by
    rw [Array.all_eq_true_iff_forall_mem]
    intro e he
    cases hb : Region.binds .any e with
    | false => rfl
    | true =>
      have hlt := fwd_lt (by have := (chkMasks_at hc i o hl).1; rwa [Nat.zero_add] at this) e (Array.mem_toList_iff.2 he) hb
      rw [hu.getD (by omega)]
      simp [hlt]
   rw [ho,decide_eq_true rfl,decide_eq_false (Nat.lt_irrefl _)]
   exact hall
  ·have : i < k := by omega
   simp [this,h]
 intro fuel
 induction fuel with
 | zero =>
   intro k listed hk hu
   unfold drawFrom
   have : Region.ready .any ops listed = [] := by
    unfold Region.ready
    rw [List.filter_eq_nil_iff]
    intro i hi
    have hi := List.mem_range.1 hi
    rw [hrd k listed hu i hi (by omega)]
    simp; omega
   rw [this]; rfl
 | succ fuel ih =>
   intro k listed hk hu
   unfold drawFrom
   rw [ih (k + 1) _ (by omega) hu.next,Bool.and_true]
   have hks : k < ops.size := by omega
   split
   ·rename_i hkm
    have hkm : k < m := of_decide_eq_true hkm
    rw [Bool.and_eq_true]
    constructor
    ·unfold Region.ready
     rw [List.contains_iff_mem,List.mem_filter]
     exact ⟨List.mem_range.2 hks,by rw [hrd k listed hu k hks (Nat.le_refl _)]; simp⟩
    ·obtain ⟨o,ho,hl⟩ := hop k hks
     unfold freeB
     rw [ho]
     simp only [List.all_eq_true]
     intro j hj
     have hj := List.mem_range.1 hj
     rw [hu.getD hj]
     by_cases h1 : j = k
     ·simp [h1]
     by_cases h2 : j < k
     ·simp [h2]
     obtain ⟨oj,hoj,hlj⟩ := hop j hj
     have := chkFree_at hf k j o oj (by omega) (by omega) hl hlj
     rw [Nat.zero_add,Nat.zero_add] at this
     rcases this with h | ⟨h,h'⟩
     ·rw [reach_of hc k ops.size j hj hj h]
      simp
     ·rw [hoj]
      simp [h,h']
   ·rename_i hkm
    have hkm : m ≤ k := by
     have := of_decide_eq_false hkm
     omega
    have : Region.ready .any ops listed = [k] := by
     unfold Region.ready
     refine filter_one hks fun i hi => ?_
     by_cases hik : i ≤ k
     ·exact hrd k listed hu i hi hik
     ·obtain ⟨o,ho,hl⟩ := hop i hi
      have hon := chkTail_at ht i o hl (by omega)
      rw [Nat.zero_add] at hon
      obtain ⟨e,he,hb,hei⟩ := onPrev_at hon
      have hno : (o.after.all fun e => !Region.binds .any e || listed.getD e.on false) = false := by
       rw [Bool.eq_false_iff]
       intro hall
       rw [Array.all_eq_true_iff_forall_mem] at hall
       have := hall e (Array.mem_toList_iff.1 he)
       rw [hb,hu.getD (by omega)] at this
       simp at this
       omega
      have hne : i ≠ k := by omega
      rw [ho,decide_eq_false hne]
      show (_ && (o.after.all fun e => !Region.binds .any e || listed.getD e.on false)) = false
      rw [hno,Bool.and_false]
    rw [this]
    simp
theorem drawOK_of {ops : Array Oper} {m : Nat} (ms : List Nat) (hs : Region.noSelect ops = true) (h : drawFast ops m ms = true) : drawOK ops m = true := by
 unfold drawFast at h
 split at h
 ·split at h
  ·split at h
   ·rename_i _ h1 _ h2 _ h3
    unfold drawOK
    rw [decide_eq_true (show m ≤ ops.size from Nat.le_of_ble_eq_true h1),hs,Bool.true_and,Bool.true_and]
    exact drawFrom_of h2 h h3 ops.size 0 _ (by omega) ⟨by simp,fun i hi => by simp [hi]⟩
   ·cases h
  ·cases h
 ·cases h
end Qv

end

section
open Go Go.Proofs Go.RowKit
namespace Qv
noncomputable def ovV (x y : List Comp) (k t : Nat) : Bool := ovE comB (x.drop k) (y.drop t)
noncomputable def rowB (x y : List Comp) (k : Nat) : List AV := (List.range (y.length + 1)).map fun t => .bool (ovV x y k t)
noncomputable def rowA (x y : List Comp) (k : Nat) : List (List AV) := (rowB x y k).map fun a => [a]
noncomputable def rowF (x y : List Comp) (k t : Nat) : List FV := mapP ((rowB x y k).drop t)
noncomputable def rowsF (x y : List Comp) (k : Nat) : List FV := ((List.range (x.length + 1)).drop k).map fun u => .p (.sl (rowA x y u))
noncomputable def headO (x y : List Comp) (n : Nat) : List FV := List.replicate n (.full []) ++ rowsF x y n
noncomputable def rowsO (x y : List Comp) (i : Nat) : List FV := List.replicate i (.full []) ++ (.osl 43 4 1 :: rowsF x y (i + 1))
noncomputable def cellsO (x y : List Comp) (i m : Nat) : List FV := List.replicate m (.p (.bool false)) ++ rowF x y i m
theorem range_drop {n t : Nat} (h : t < n) : (List.range n).drop t = t :: (List.range n).drop (t + 1) := by
 rw [List.drop_eq_getElem_cons (by rw [List.length_range]; exact h),List.getElem_range]
theorem rowsF_cons {x y : List Comp} {k : Nat} (h : k < x.length + 1) : rowsF x y k = .p (.sl (rowA x y k)) :: rowsF x y (k + 1) := by
 unfold rowsF
 rw [range_drop h]; rfl
theorem rowsF_end (x y : List Comp) : rowsF x y (x.length + 1) = [] := by
 unfold rowsF
 rw [List.drop_eq_nil_of_le (by simp)]; rfl
theorem rowF_cons {x y : List Comp} {k t : Nat} (h : t < y.length + 1) : rowF x y k t = .p (.bool (ovV x y k t)) :: rowF x y k (t + 1) := by
 unfold rowF rowB
 rw [← List.map_drop,range_drop h,List.map_cons,← List.map_drop]; rfl
theorem rowF_end (x y : List Comp) (k : Nat) : rowF x y k (y.length + 1) = [] := by
 unfold rowF rowB
 rw [List.drop_eq_nil_of_le (by simp)]; rfl
theorem rowA_at {x y : List Comp} {k t : Nat} {b : Bool} (h : t < y.length + 1) (hb : ovV x y k t = b) : (rowA x y k)[((t : Nat) : Int).toNat]? = some [.bool b] := by
 subst hb
 simp [rowA,rowB,h]
theorem rowA_flat (x y : List Comp) (k : Nat) : (rowA x y k).flatten = rowB x y k := by
 unfold rowA
 induction rowB x y k with
 | nil => rfl
 | cons a r ih => show _ ++ (r.map fun a => [a]).flatten = _; rw [ih]; rfl
theorem rowA_all (x y : List Comp) (k : Nat) : ∀ ys,ys ∈ rowA x y k → ys.length = 1 ∧ ∀ a,a ∈ ys → a.one = true := fun ys hy => by
 unfold rowA rowB at hy
 obtain ⟨a,ha,rfl⟩ := List.mem_map.1 hy
 obtain ⟨t,-,rfl⟩ := List.mem_map.1 ha
 exact ⟨rfl,fun y hy => by rw [List.mem_singleton.1 hy]; rfl⟩
theorem kill_app (d : Nat) (A B : List FV) : FV.killL d (A ++ B) = FV.killL d A ++ FV.killL d B := by
 rw [FV.killL_eq,FV.killL_eq,FV.killL_eq,List.map_append]
theorem kill_rep (d n : Nat) (a : FV) (h : a.kill d = a) : FV.killL d (List.replicate n a) = List.replicate n a := by
 rw [FV.killL_eq,List.map_replicate,h]
theorem kill_rows (d : Nat) (x y : List Comp) (k : Nat) : FV.killL d (rowsF x y k) = rowsF x y k := by
 rw [FV.killL_eq]
 unfold rowsF
 rw [List.map_map]; rfl
theorem kill_head (d : Nat) (x y : List Comp) (n : Nat) : FV.killL d (headO x y n) = headO x y n := by
 unfold headO
 rw [kill_app,kill_rep d n _ rfl,kill_rows]
theorem headO_len {x y : List Comp} {n : Nat} (h : n ≤ x.length + 1) : (headO x y n).length = x.length + 1 := by
 unfold headO rowsF
 simp; omega
theorem rowsO_len {x y : List Comp} {i : Nat} (h : i < x.length + 1) : (rowsO x y i).length = x.length + 1 := by
 unfold rowsO rowsF
 simp; omega
theorem mapP_len5 : ∀ l : List AV,(mapP l).length = l.length
 | [] => rfl
 | a :: l => by show (mapP l).length + 1 = l.length + 1; rw [mapP_len5 l]
theorem cellsO_len {x y : List Comp} {i m : Nat} (h : m ≤ y.length + 1) : (cellsO x y i m).length = y.length + 1 := by
 unfold cellsO rowF rowB
 rw [List.length_append,mapP_len5]
 simp; omega
theorem headO_split (x y : List Comp) (i : Nat) : headO x y (i + 1) = List.replicate i (.full []) ++ ([.full []] ++ rowsF x y (i + 1)) := by
 unfold headO
 rw [List.replicate_succ',List.append_assoc]
theorem rowsO_here (x y : List Comp) (i : Nat) : rowsO x y i = List.replicate i (.full []) ++ ([.osl 43 4 1] ++ rowsF x y (i + 1)) := rfl
theorem rowsO_next {x y : List Comp} {i : Nat} (h : i + 1 < x.length + 1) : rowsO x y i = (List.replicate i (.full []) ++ [.osl 43 4 1]) ++ ([.p (.sl (rowA x y (i + 1)))] ++ rowsF x y (i + 2)) := by
 unfold rowsO
 rw [rowsF_cons h,List.append_assoc]; rfl
theorem cellsO_here (x y : List Comp) (i j : Nat) : cellsO x y i (j + 1) = List.replicate j (.p (.bool false)) ++ ([.p (.bool false)] ++ rowF x y i (j + 1)) := by
 unfold cellsO
 rw [List.replicate_succ',List.append_assoc]
theorem cellsO_next {x y : List Comp} {i j : Nat} {b : Bool} (h : j + 1 < y.length + 1) (hb : ovV x y i (j + 1) = b) : cellsO x y i (j + 1) = List.replicate (j + 1) (.p (.bool false)) ++ ([.p (.bool b)] ++ rowF x y i (j + 2)) := by
 subst hb
 unfold cellsO
 rw [rowF_cons h]; rfl
theorem cellsO_put {x y : List Comp} {i j : Nat} {b : Bool} (h : j < y.length + 1) (hb : ovV x y i j = b) : List.replicate j (.p (.bool false)) ++ ([.p (.bool b)] ++ rowF x y i (j + 1)) = cellsO x y i j := by
 subst hb
 unfold cellsO
 rw [rowF_cons h]; rfl
theorem drop_get {α : Type} {l : List α} {k : Nat} {c : α} (h : l[k]? = some c) : l.drop k = c :: l.drop (k + 1) := by
 have hi := List.getElem?_eq_some_iff.1 h
 rw [List.drop_eq_getElem_cons hi.1,hi.2]
theorem ovV_nn {x y : List Comp} : ovV x y x.length y.length = true := by
 unfold ovV
 rw [List.drop_length,List.drop_length]
 exact ovE_nn _
theorem ovV_cn {x y : List Comp} {k : Nat} {c : Comp} (h : x[k]? = some c) : ovV x y k y.length = (c.deep && ovV x y (k + 1) y.length) := by
 unfold ovV
 rw [drop_get h,List.drop_length]
 exact ovE_cn _ _ _
theorem ovV_nc {x y : List Comp} {t : Nat} {d : Comp} (h : y[t]? = some d) : ovV x y x.length t = (d.deep && ovV x y x.length (t + 1)) := by
 unfold ovV
 rw [drop_get h,List.drop_length]
 exact ovE_nc _ _ _
theorem ovV_cc {x y : List Comp} {k t : Nat} {c d : Comp} (h : x[k]? = some c) (h2 : y[t]? = some d) :
 ovV x y k t = ((c.deep && (ovV x y (k + 1) t || ovV x y k (t + 1))) || (d.deep && (ovV x y k (t + 1) || ovV x y (k + 1) t)) || (!c.deep && !d.deep && ovV x y (k + 1) (t + 1) && comB c.ones d.ones)) := by
 unfold ovV
 rw [drop_get h,drop_get h2]
 exact ovE_cc _ _ _ _ _
theorem hasO_rows {objs : List (Nat × List FV)} {x y : List Comp} {i : Nat} {l0 : List FV} (hi : i < x.length + 1) (h : Qv.getObj objs 31 = some l0) (e : l0 = FV.frOL 43 1 (rowA x y i) (rowsO x y i)) :
 ∃ ys,Qv.getObj objs 31 = some ys ∧ ys.length = (headO x y i).length ∧ ∀ (t : Nat) (a b : FV),ys[t]? = some a → (headO x y i)[t]? = some b → Weak a b := by
 subst e
 have e1 : FV.frOL 43 1 (rowA x y i) (rowsO x y i) = List.replicate i (.full []) ++ (.tip 43 4 1 (rowA x y i) :: rowsF x y (i + 1)) := by
  rw [FV.frOL_eq]
  unfold rowsO rowsF
  rw [List.map_append,List.map_replicate,List.map_cons,List.map_map]; rfl
 have e2 : headO x y i = List.replicate i (.full []) ++ (.p (.sl (rowA x y i)) :: rowsF x y (i + 1)) := by
  unfold headO
  rw [rowsF_cons hi]
 rw [e1] at h
 rw [e2]
 refine ⟨_,h,by simp,fun t a b h1 h2 => ?_⟩
 by_cases ht : t = i
 ·subst ht
  simp at h1 h2
  subst h1; subst h2
  exact Weak.tip_p _ _ _ _
 ·have : a = b := by
   by_cases hlt : t < i
   ·rw [List.getElem?_append_left (by simp; exact hlt)] at h1 h2
    exact Option.some.inj (h1.symm.trans h2)
   ·rw [List.getElem?_append_right (by simp; omega)] at h1 h2
    obtain ⟨u,hu⟩ : ∃ u,t - (List.replicate i (FV.full [])).length = u + 1 := ⟨t - i - 1,by simp; omega⟩
    rw [hu] at h1 h2
    exact Option.some.inj (h1.symm.trans h2)
  subst this
  exact wR
end Qv

end
