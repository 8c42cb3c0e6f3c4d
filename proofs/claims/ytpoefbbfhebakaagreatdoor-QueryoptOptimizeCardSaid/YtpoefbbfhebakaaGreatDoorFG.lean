/- Several texts in one: When two globs have a path in common, in the reference's way, in plain terms and what follows. No condition. -/
import Derived.Test.YtpoefbbfhebakaaGreatDoorF5
import Derived.Test.YtpoefbbfhebakaaGreatDoorF8
import Derived.Test.YtpoefbbfhebakaaGreatDoorF4
import Derived.Test.YtpoefbbfhebakaaGreatDoorFv4
import Derived.Test.YtpoefbbfhebakaaGreatDoorF6
import Derived.Test.YtpoefbbfhebakaaGreatDoorFA
set_option linter.unusedVariables false
set_option linter.unusedSimpArgs false

section
open Go Go.Proofs Go.RowKit
namespace Qv
inductive accA : List Atom → Bytes → Prop
 | nil : accA [] []
 | skip (a : Atom) (l : List Atom) (s : Bytes) : a.isStar = true → accA l s → accA (a :: l) s
 | take (a : Atom) (l : List Atom) (c : UInt8) (s : Bytes) : a.isStar = true → accA (a :: l) s → accA (a :: l) (c :: s)
 | one (a : Atom) (l : List Atom) (c : UInt8) (s : Bytes) : a.isStar = false → a.fit c = true → accA l s → accA (a :: l) (c :: s)
theorem accA_skip {l : List Atom} {s : Bytes} : ∀ (n i k : Nat),k - i = n → i ≤ k → (∀ t,i ≤ t → t < k → starAt l t) → accA (l.drop k) s → accA (l.drop i) s
 | 0,i,k,hn,hi,_,h => by
   obtain rfl : i = k := by omega
   exact h
 | n + 1,i,k,hn,hi,hs,h => by
   obtain ⟨a,ha,hst⟩ := hs i (Nat.le_refl _) (by omega)
   rw [drop_at ha]
   exact .skip a _ _ hst (accA_skip n (i + 1) k (by omega) (by omega) (fun t h1 h2 => hs t (by omega) h2) h)
theorem accA_all : ∀ l : List Atom,l.all Atom.isStar = true → accA l []
 | [],_ => .nil
 | a :: l,h => by
   rw [List.all_cons,Bool.and_eq_true] at h
   exact .skip a l [] h.1 (accA_all l h.2)
theorem reach_accA {l : List Atom} {s : Bytes} : ∀ (k i : Nat),k ≤ s.length → reach l s k i → accA (l.drop i) (s.drop k) → accA l s
 | 0,i,_,h,ha => by
   have h : i = 0 := h
   subst h
   exact ha
 | k + 1,i,hk,⟨i',c,hr,hc,k',a,h1,h2,h3,h4⟩,ha => by
   refine reach_accA k i' (by omega) hr (accA_skip _ i' k' rfl h1 h2 ?_)
   rw [drop_at h3,drop_at hc]
   rcases h4 with ⟨hst,rfl⟩ | ⟨hst,hf,rfl⟩
   ·rw [drop_at h3] at ha
    exact .take a _ c _ hst ha
   ·exact .one a _ c _ hst hf ha
theorem accA_reach {L : List Atom} {S : Bytes} (h : accA L S) : ∀ (l : List Atom) (s : Bytes) (i i0 k : Nat),l.drop i = L → s.drop k = S → k ≤ s.length → i0 ≤ i → reach l s k i0 → (∀ t,i0 ≤ t → t < i → starAt l t) → fitsP l s := by
 induction h with
 | nil =>
   intro l s i i0 k hL hS hk hi hr hs
   have e1 : l.length ≤ i := List.drop_eq_nil_iff.1 hL
   have e2 : s.length ≤ k := List.drop_eq_nil_iff.1 hS
   obtain rfl : k = s.length := by omega
   refine ⟨i0,hr,?_⟩
   unfold endedF
   rw [List.all_eq_true]
   intro a ha
   obtain ⟨j,hj⟩ := List.mem_iff_getElem?.1 ha
   rw [List.getElem?_drop] at hj
   have := (List.getElem?_eq_some_iff.1 hj).1
   exact starAt_some hj (hs (i0 + j) (by omega) (by omega))
 | skip a l' s' hst _ ih =>
   intro l s i i0 k hL hS hk hi hr hs
   have ha : l[i]? = some a := by
    have : (l.drop i)[0]? = some a := by rw [hL]; rfl
    simpa using this
   refine ih l s (i + 1) i0 k ?_ hS hk (by omega) hr fun t h1 h2 => ?_
   ·rw [drop_at ha] at hL
    exact (List.cons.inj hL).2
   ·by_cases ht : t = i
    ·subst ht; exact ⟨a,ha,hst⟩
    ·exact hs t h1 (by omega)
 | take a l' c s' hst _ ih =>
   intro l s i i0 k hL hS hk hi hr hs
   have ha : l[i]? = some a := by
    have : (l.drop i)[0]? = some a := by rw [hL]; rfl
    simpa using this
   have hc : s[k]? = some c := by
    have : (s.drop k)[0]? = some c := by rw [hS]; rfl
    simpa using this
   have hlt := (List.getElem?_eq_some_iff.1 hc).1
   refine ih l s i i (k + 1) hL ?_ (by omega) (Nat.le_refl _) ⟨i0,c,hr,hc,i,a,hi,hs,ha,.inl ⟨hst,rfl⟩⟩ fun t h1 h2 => by omega
   rw [drop_at hc] at hS
   exact (List.cons.inj hS).2
 | one a l' c s' hst hf _ ih =>
   intro l s i i0 k hL hS hk hi hr hs
   have ha : l[i]? = some a := by
    have : (l.drop i)[0]? = some a := by rw [hL]; rfl
    simpa using this
   have hc : s[k]? = some c := by
    have : (s.drop k)[0]? = some c := by rw [hS]; rfl
    simpa using this
   have hlt := (List.getElem?_eq_some_iff.1 hc).1
   refine ih l s (i + 1) (i + 1) (k + 1) ?_ ?_ (by omega) (Nat.le_refl _) ⟨i0,c,hr,hc,i,a,hi,hs,ha,.inr ⟨hst,hf,rfl⟩⟩ fun t h1 h2 => by omega
   ·rw [drop_at ha] at hL
    exact (List.cons.inj hL).2
   ·rw [drop_at hc] at hS
    exact (List.cons.inj hS).2
theorem fits_accA {l : List Atom} {s : Bytes} : fitsP l s ↔ accA l s := by
 constructor
 ·rintro ⟨i,hr,he⟩
  refine reach_accA s.length i (Nat.le_refl _) hr ?_
  rw [List.drop_length]
  exact accA_all _ he
 ·intro h
  exact accA_reach h l s 0 0 0 rfl rfl (Nat.zero_le _) (Nat.le_refl _) rfl fun t h1 h2 => absurd h2 (Nat.not_lt_zero _)
def meetB (a b : Atom) : Bool := (List.range 256).any fun i => a.fit (UInt8.ofNat i) && b.fit (UInt8.ofNat i)
def crF : Nat → List Atom → List Atom → Bool
 | 0,_,_ => false
 | _ + 1,[],[] => true
 | n + 1,a :: x,[] => a.isStar && crF n x []
 | n + 1,[],b :: y => b.isStar && crF n [] y
 | n + 1,a :: x,b :: y => (a.isStar && (crF n x (b :: y) || (!b.isStar && crF n (a :: x) y))) || (b.isStar && (crF n (a :: x) y || (!a.isStar && crF n x (b :: y)))) || (!a.isStar && !b.isStar && meetB a b && crF n x y)
theorem cr_fuel : ∀ (n m : Nat) (x y : List Atom),x.length + y.length < n → x.length + y.length < m → crF n x y = crF m x y
 | 0,_,_,_,h,_ => absurd h (Nat.not_lt_zero _)
 | _ + 1,0,_,_,_,h => absurd h (Nat.not_lt_zero _)
 | n + 1,m + 1,[],[],_,_ => rfl
 | n + 1,m + 1,c :: x,[],h1,h2 => by
   simp only [crF]
   rw [cr_fuel n m x [] (by simp at h1 ⊢; omega) (by simp at h2 ⊢; omega)]
 | n + 1,m + 1,[],d :: y,h1,h2 => by
   simp only [crF]
   rw [cr_fuel n m [] y (by simp at h1 ⊢; omega) (by simp at h2 ⊢; omega)]
 | n + 1,m + 1,c :: x,d :: y,h1,h2 => by
   simp only [crF]
   simp only [List.length_cons] at h1 h2
   rw [cr_fuel n m x (d :: y) (by simp; omega) (by simp; omega),cr_fuel n m (c :: x) y (by simp; omega) (by simp; omega),cr_fuel n m x y (by omega) (by omega)]
def comR (x y : List Atom) : Bool := crF (x.length + y.length + 1) x y
theorem comR_nn : comR [] [] = true := rfl
theorem comR_cn (c : Atom) (x : List Atom) : comR (c :: x) [] = (c.isStar && comR x []) := by
 unfold comR
 simp only [List.length_cons,crF]
 rw [cr_fuel _ (x.length + ([] : List Atom).length + 1) x [] (by simp) (by simp)]
theorem comR_nc (d : Atom) (y : List Atom) : comR [] (d :: y) = (d.isStar && comR [] y) := by
 unfold comR
 simp only [List.length_cons,crF]
 rw [cr_fuel _ (([] : List Atom).length + y.length + 1) [] y (by simp) (by simp)]
theorem comR_cc (c d : Atom) (x y : List Atom) :
 comR (c :: x) (d :: y) = ((c.isStar && (comR x (d :: y) || (!d.isStar && comR (c :: x) y))) || (d.isStar && (comR (c :: x) y || (!c.isStar && comR x (d :: y)))) || (!c.isStar && !d.isStar && meetB c d && comR x y)) := by
 unfold comR
 rw [show (c :: x).length + (d :: y).length + 1 = (x.length + y.length + 2) + 1 from by simp only [List.length_cons]; omega]
 simp only [crF]
 rw [cr_fuel (x.length + y.length + 2) (x.length + (d :: y).length + 1) x (d :: y) (by simp; omega) (by simp),cr_fuel (x.length + y.length + 2) ((c :: x).length + y.length + 1) (c :: x) y (by simp; omega) (by simp),cr_fuel (x.length + y.length + 2) (x.length + y.length + 1) x y (by omega) (by omega)]
def Atom.good (a : Atom) : Prop := a.isStar = true ∨ ((∃ c,a.fit c = true) ∧ a.fit 47 = false)
theorem good_fit {a : Atom} (h : a.good) (hs : a.isStar = false) : (∃ c,c ≠ 47 ∧ a.fit c = true) := by
 rcases h with h | ⟨⟨c,hc⟩,h47⟩
 ·rw [hs] at h; cases h
 ·exact ⟨c,fun e => (by rw [e,h47] at hc; cases hc),hc⟩
theorem good_ne {a : Atom} (h : a.good) (hs : a.isStar = false) {c : UInt8} (hc : a.fit c = true) : c ≠ 47 := by
 rcases h with h | ⟨_,h47⟩
 ·rw [hs] at h; cases h
 ·intro e
  rw [e,h47] at hc; cases hc
theorem noSlash_cons {c : UInt8} {s : Bytes} (hc : c ≠ 47) (h : noSlash s) : noSlash (c :: s) := fun d hd => by
 rcases List.mem_cons.1 hd with rfl | hd
 ·exact hc
 ·exact h d hd
theorem cr_sound : ∀ (n : Nat) (x y : List Atom),(∀ a,a ∈ x → a.good) → (∀ b,b ∈ y → b.good) → crF n x y = true → ∃ s,noSlash s ∧ accA x s ∧ accA y s
 | 0,x,y,_,_,h => by simp [crF] at h
 | n + 1,[],[],_,_,_ => ⟨[],fun c h => (by cases h),.nil,.nil⟩
 | n + 1,a :: x,[],hx,hy,h => by
   simp only [crF,Bool.and_eq_true] at h
   obtain ⟨s,h1,h2,h3⟩ := cr_sound n x [] (fun c hc => hx c (List.mem_cons_of_mem _ hc)) hy h.2
   exact ⟨s,h1,.skip a x s h.1 h2,h3⟩
 | n + 1,[],b :: y,hx,hy,h => by
   simp only [crF,Bool.and_eq_true] at h
   obtain ⟨s,h1,h2,h3⟩ := cr_sound n [] y hx (fun c hc => hy c (List.mem_cons_of_mem _ hc)) h.2
   exact ⟨s,h1,h2,.skip b y s h.1 h3⟩
 | n + 1,a :: x,b :: y,hx,hy,h => by
   have hx' : ∀ c,c ∈ x → c.good := fun c hc => hx c (List.mem_cons_of_mem _ hc)
   have hy' : ∀ c,c ∈ y → c.good := fun c hc => hy c (List.mem_cons_of_mem _ hc)
   have ga := hx a List.mem_cons_self
   have gb := hy b List.mem_cons_self
   simp only [crF,Bool.or_eq_true,Bool.and_eq_true,Bool.not_eq_true'] at h
   rcases h with (⟨hs,h | ⟨hb,h⟩⟩ | ⟨hs,h | ⟨ha,h⟩⟩) | ⟨⟨⟨ha,hb⟩,hm⟩,h⟩
   ·obtain ⟨s,h1,h2,h3⟩ := cr_sound n x (b :: y) hx' hy h
    exact ⟨s,h1,.skip a x s hs h2,h3⟩
   ·obtain ⟨s,h1,h2,h3⟩ := cr_sound n (a :: x) y hx hy' h
    obtain ⟨c,hc,hf⟩ := good_fit gb hb
    exact ⟨c :: s,noSlash_cons hc h1,.take a x c s hs h2,.one b y c s hb hf h3⟩
   ·obtain ⟨s,h1,h2,h3⟩ := cr_sound n (a :: x) y hx hy' h
    exact ⟨s,h1,h2,.skip b y s hs h3⟩
   ·obtain ⟨s,h1,h2,h3⟩ := cr_sound n x (b :: y) hx' hy h
    obtain ⟨c,hc,hf⟩ := good_fit ga ha
    exact ⟨c :: s,noSlash_cons hc h1,.one a x c s ha hf h2,.take b y c s hs h3⟩
   ·obtain ⟨s,h1,h2,h3⟩ := cr_sound n x y hx' hy' h
    unfold meetB at hm
    rw [List.any_eq_true] at hm
    obtain ⟨i,-,hi⟩ := hm
    rw [Bool.and_eq_true] at hi
    exact ⟨UInt8.ofNat i :: s,noSlash_cons (good_ne ga ha hi.1) h1,.one a x _ s ha hi.1 h2,.one b y _ s hb hi.2 h3⟩
theorem meet_of {a b : Atom} {c : UInt8} (ha : a.fit c = true) (hb : b.fit c = true) : meetB a b = true := by
 unfold meetB
 rw [List.any_eq_true]
 refine ⟨c.toNat,List.mem_range.2 c.toNat_lt,?_⟩
 rw [UInt8.ofNat_toNat,ha,hb]; rfl
theorem cr_complete : ∀ (n : Nat) (x y : List Atom) (s : Bytes) (N : Nat),x.length + y.length + s.length ≤ n → x.length + y.length < N → accA x s → accA y s → crF N x y = true := by
 intro n
 induction n with
 | zero =>
   intro x y s N hn hN hx hy
   have e1 : x = [] := List.length_eq_zero_iff.1 (by omega)
   have e2 : y = [] := List.length_eq_zero_iff.1 (by omega)
   subst e1; subst e2
   cases N with
   | zero => omega
   | succ N => rfl
 | succ n ih =>
   intro x y s N hn hN hx hy
   cases N with
   | zero => omega
   | succ N =>
   cases hx with
   | nil =>
     cases hy with
     | nil => rfl
     | skip b ys _ hb hy =>
       have := ih [] ys [] N (by simp at hn ⊢; omega) (by simp at hN ⊢; omega) .nil hy
       simp only [crF,hb,this,Bool.true_and]
   | skip a xs _ ha hx =>
     have h1 := ih xs y s N (by simp at hn ⊢; omega) (by simp at hN ⊢; omega) hx hy
     cases y with
     | nil => simp only [crF,ha,h1,Bool.true_and]
     | cons b ys => simp only [crF,ha,h1,Bool.true_and,Bool.true_or]
   | take a xs c s' ha hx =>
     cases hy with
     | skip b ys _ hb hy =>
       have h1 := ih (a :: xs) ys (c :: s') N (by simp at hn ⊢; omega) (by simp at hN ⊢; omega) (.take a xs c s' ha hx) hy
       simp only [crF,hb,h1,Bool.true_and,Bool.or_true,Bool.true_or]
     | take b ys _ _ hb hy =>
       exact ih (a :: xs) (b :: ys) s' (N + 1) (by simp at hn ⊢; omega) (by simpa using hN) hx hy
     | one b ys _ _ hb hf hy =>
       have h1 := ih (a :: xs) ys s' N (by simp at hn ⊢; omega) (by simp at hN ⊢; omega) hx hy
       simp only [crF,ha,hb,h1,Bool.true_and,Bool.or_true,Bool.true_or,Bool.not_false]
   | one a xs c s' ha hf hx =>
     cases hy with
     | skip b ys _ hb hy =>
       have h1 := ih (a :: xs) ys (c :: s') N (by simp at hn ⊢; omega) (by simp at hN ⊢; omega) (.one a xs c s' ha hf hx) hy
       simp only [crF,ha,hb,h1,Bool.true_and,Bool.true_or,Bool.false_and,Bool.false_or]
     | take b ys _ _ hb hy =>
       have h1 := ih xs (b :: ys) s' N (by simp at hn ⊢; omega) (by simp at hN ⊢; omega) hx hy
       simp only [crF,ha,hb,h1,Bool.true_and,Bool.or_true,Bool.true_or,Bool.false_and,Bool.false_or,Bool.not_false]
     | one b ys _ _ hb hg hy =>
       have h1 := ih xs ys s' N (by simp at hn ⊢; omega) (by simp at hN ⊢; omega) hx hy
       have h2 := meet_of hf hg
       simp only [crF,ha,hb,h1,h2,Bool.true_and,Bool.or_true,Bool.true_or,Bool.false_and,Bool.false_or,Bool.not_false]
theorem comR_iff {x y : List Atom} (hx : ∀ a,a ∈ x → a.good) (hy : ∀ b,b ∈ y → b.good) : comR x y = true ↔ commonP x y := by
 constructor
 ·intro h
  obtain ⟨s,h1,h2,h3⟩ := cr_sound _ x y hx hy h
  exact ⟨s,h1,fits_accA.2 h2,fits_accA.2 h3⟩
 ·rintro ⟨s,h1,h2,h3⟩
  exact cr_complete _ x y s _ (Nat.le_refl _) (by omega) (fits_accA.1 h2) (fits_accA.1 h3)
theorem com_eq {x y : List Atom} (hx : ∀ a,a ∈ x → a.good) (hy : ∀ b,b ∈ y → b.good) : comB x y = comR x y :=
 (comB_of (comR_iff hx hy)).symm
theorem ovF_congr {com com' : List Atom → List Atom → Bool} : ∀ (n : Nat) (x y : List Comp),(∀ c d,c ∈ x → d ∈ y → com c.ones d.ones = com' c.ones d.ones) → ovF com n x y = ovF com' n x y
 | 0,_,_,_ => rfl
 | n + 1,[],[],_ => rfl
 | n + 1,c :: x,[],h => by
   simp only [ovF]
   rw [ovF_congr n x [] (fun c d hc hd => by cases hd)]
 | n + 1,[],d :: y,h => by
   simp only [ovF]
   rw [ovF_congr n [] y (fun c d hc hd => by cases hc)]
 | n + 1,c :: x,d :: y,h => by
   simp only [ovF]
   rw [ovF_congr n x (d :: y) (fun a b ha hb => h a b (List.mem_cons_of_mem _ ha) hb),ovF_congr n (c :: x) y (fun a b ha hb => h a b ha (List.mem_cons_of_mem _ hb)),
    ovF_congr n x y (fun a b ha hb => h a b (List.mem_cons_of_mem _ ha) (List.mem_cons_of_mem _ hb)),h c d List.mem_cons_self List.mem_cons_self]
theorem oneF_good {s : Bytes} {n : Nat} {a : Atom} {n' : Nat} (hs : noSlash s) (h : oneF s n = some (a,n')) : a.good := by
 unfold oneF at h
 split at h
 ·cases h
 ·split at h
  ·simp only [Option.some.injEq,Prod.mk.injEq] at h
   obtain ⟨rfl,rfl⟩ := h
   exact .inl rfl
  split at h
  ·simp only [Option.some.injEq,Prod.mk.injEq] at h
   obtain ⟨rfl,rfl⟩ := h
   exact .inr ⟨⟨0,by decide⟩,by decide⟩
  split at h
  ·split at h
   ·rename_i set neg n2 hq
    simp only [Option.some.injEq,Prod.mk.injEq] at h
    obtain ⟨rfl,rfl⟩ := h
    refine .inr ⟨?_,by simp [Atom.fit,clsB]⟩
    unfold clsF at hq
    split at hq
    ·cases hq
    ·simp only [Option.some.injEq,Prod.mk.injEq,Bool.and_eq_true] at hq
     obtain ⟨rfl,rfl,⟨-,hsm⟩,-⟩ := hq
     unfold someC at hsm
     rw [List.any_eq_true] at hsm
     obtain ⟨i,-,hi⟩ := hsm
     exact ⟨_,hi⟩
   ·cases h
  ·split at h
   ·rename_i d n2 hq
    simp only [Option.some.injEq,Prod.mk.injEq] at h
    obtain ⟨rfl,rfl⟩ := h
    have hd : d ≠ 47 := by
     unfold plainF at hq
     split at hq
     ·rename_i c hc
      injection hq with hq
      subst hq
      exact hs _ (List.mem_of_getElem? hc)
     ·injection hq with h1 h2
      injection h2 with h2 h3
      cases h2
    refine .inr ⟨⟨d,by simp [Atom.fit]⟩,?_⟩
    show (47 == d) = false
    simpa using fun e => hd e.symm
   ·cases h
theorem onesGo_good {s : Bytes} (hs : noSlash s) : ∀ (f n : Nat) (acc l : List Atom),(∀ a,a ∈ acc → a.good) → onesGo s f n acc = some l → ∀ a,a ∈ l → a.good
 | 0,_,_,_,_,h => by simp [onesGo] at h
 | f + 1,n,acc,l,ha,h => by
   simp only [onesGo] at h
   split at h
   ·split at h
    ·cases h
    ·rename_i a n' hq
     refine onesGo_good hs f n' (acc ++ [a]) l (fun b hb => ?_) h
     rcases List.mem_append.1 hb with hb | hb
     ·exact ha b hb
     ·rw [List.mem_singleton.1 hb]; exact oneF_good hs hq
   ·cases h
    exact ha
theorem compF_good {p : Bytes} {c : Comp} (hs : noSlash p) (h : compF p = some c) : ∀ a,a ∈ c.ones → a.good := by
 unfold compF at h
 split at h
 ·cases h
 split at h
 ·cases h
  intro a ha; cases ha
 ·split at h
  ·cases h
  ·rename_i l hq
   cases h
   exact onesGo_good hs _ _ [] l (fun a ha => by cases ha) hq
theorem compsGo_good : ∀ (P : List Bytes) (acc l : List Comp),(∀ p,p ∈ P → noSlash p) → (∀ c,c ∈ acc → ∀ a,a ∈ c.ones → a.good) → compsGo P acc = some l → ∀ c,c ∈ l → ∀ a,a ∈ c.ones → a.good
 | [],acc,l,_,ha,h => by
   cases h
   exact ha
 | p :: P,acc,l,hP,ha,h => by
   simp only [compsGo] at h
   split at h
   ·cases h
   ·rename_i c hq
    refine compsGo_good P (acc ++ [c]) l (fun q hq => hP q (List.mem_cons_of_mem _ hq)) (fun d hd => ?_) h
    rcases List.mem_append.1 hd with hd | hd
    ·exact ha d hd
    ·rw [List.mem_singleton.1 hd]; exact compF_good (hP p List.mem_cons_self) hq
theorem parseF_good {g : Bytes} : ∀ c,c ∈ (parseF g).1 → ∀ a,a ∈ c.ones → a.good := by
 unfold parseF
 split
 ·intro c hc; cases hc
 ·split
  ·intro c hc; cases hc
  ·rename_i l hq
   exact compsGo_good _ [] l (fun p hp => parts_noSlash g p hp) (fun c hc => by cases hc) hq
def overR (g h : Bytes) : Bool := decide ((parseF g).2 = 0) && decide ((parseF h).2 = 0) && ovE comR (parseF g).1 (parseF h).1
theorem over_eq (g h : Bytes) : overF g h = overR g h := by
 unfold overF overR ovE
 rw [ovF_congr (com := comB) (com' := comR) _ _ _ fun c d hc hd => com_eq (parseF_good c hc) (parseF_good d hd)]
end Qv

end

section
open Go Go.Proofs Go.RowKit
namespace Qv
theorem evOps_box {C : Ctx} {call : CallH} {Y : Yld} {ops : Array Oper} {rest : List Oper} {K : ASt → Prop} {S : ASt} {o : Oper} (t : TypeId) (x : Operand) (d nm : Nat) (xs : List AV) {i : TInfo} (hg : o.guard = none) (hd : o.dst = some d) (hop : o.op = .box t x) (ht : tabGet C.tab t = some i)
 (hx : S.val x = .p (.agg xs)) (hl : xs.length = i.size) (h1 : allOne (mapP xs) = true) (hnm : S.off + d = nm) (h9 : Nat.beq nm 999999 = false) (hk : FV.killL nm (mapP xs) = mapP xs)
 (h : evOps C call Y ops rest K { (S.kill nm).put (some d) (.ptr nm 0) with objs := (nm,mapP xs) :: delObj nm S.objs }) : evOps C call Y ops (o :: rest) K S := by
 unfold evOps
 simp only [hg]
 unfold evOp
 have hml : (mapP xs).length = i.size := by rw [mapP_eq,List.length_map,hl]
 simp only [hop,hd,ht,hx,FV.cells,hml,Nat.beq_refl,h1,forceL_eq,newObjK]
 rw [withNmL_eq,hnm]
 refine ⟨h9,?_⟩
 rw [hk]
 exact h
theorem evS2_loadI {C : Ctx} {K : ASt → Prop} {S : ASt} {o : Oper} (t : TypeId) (a : Operand) (xs : List AV) {i : TInfo} (hop : o.op = .load t a) (ha : S.val a = .p (.imp xs)) (ht : tabGet C.tab t = some i) (hi : i.shape.isAgg = true) (hl : xs.length = i.size) (h : K (S.put o.dst (.p (.agg xs)))) : evS2 C o K S := by
 unfold evS2
 rw [hop]
 simp only [evV2,ha]
 unfold evLoad
 simp only [ht,hi]
 have : takeA i.size xs = some xs := by
  rw [← hl]
  clear hl ha h
  induction xs with
  | nil => rfl
  | cons x xs ih => simp only [List.length_cons,takeA,ih]
 rw [this]
 exact h
theorem kill_mapP (d : Nat) (xs : List AV) : FV.killL d (mapP xs) = mapP xs := by
 rw [FV.killL_eq]
 induction xs with
 | nil => rfl
 | cons x xs ih => show _ :: List.map _ (mapP xs) = _; rw [ih]; rfl
theorem allOne_mapP {xs : List AV} (h : ∀ x,x ∈ xs → x.one = true) : allOne (mapP xs) = true := by
 induction xs with
 | nil => rfl
 | cons x xs ih =>
   show (match (FV.p x).one with | true => allOne (mapP xs) | false => false) = true
   have : (FV.p x).one = true := h x List.mem_cons_self
   rw [this]
   exact ih fun y hy => h y (List.mem_cons_of_mem _ hy)
theorem ref_one (a : Atom) : ∀ x,x ∈ a.ref → x.one = true := by
 intro x hx
 unfold Atom.ref elC at hx
 rcases List.mem_cons.1 hx with rfl | hx
 ·rfl
 rcases List.mem_cons.1 hx with rfl | hx
 ·rfl
 obtain ⟨b,-,rfl⟩ := List.mem_map.1 hx
 rfl
theorem tbl_at (a : Atom) {i : Nat} (h : i < 256) : a.tbl[i]? = some (a.fit (UInt8.ofNat i)) := by
 simp [Atom.tbl,h]
theorem mapP_ref (a : Atom) : mapP a.ref = .p (.bool a.isStar) :: .p (.bool a.isLit) :: encSet a.tbl := rfl
theorem ref_split (a : Atom) {i : Nat} (h : i < 256) : mapP a.ref = (.p (.bool a.isStar) :: .p (.bool a.isLit) :: encSet (a.tbl.take i)) ++ ([.p (.bool (a.fit (UInt8.ofNat i)))] ++ encSet (a.tbl.drop (i + 1))) := by
 have hl : i < a.tbl.length := by rw [tbl_len]; exact h
 have e : a.tbl[i] = a.fit (UInt8.ofNat i) := by
  have := tbl_at a h
  rw [List.getElem?_eq_getElem hl] at this
  exact Option.some.inj this
 rw [mapP_ref,encSet_split hl,e]
 rfl
theorem ref_take (a : Atom) {i : Nat} (h : i < 256) : (FV.p (.bool a.isStar) :: FV.p (.bool a.isLit) :: encSet (a.tbl.take i)).length = 2 + i * 1 := by
 show (encSet (a.tbl.take i)).length + 1 + 1 = _
 rw [encSet_length,List.length_take,tbl_len]
 omega
set_option maxRecDepth 100000 in
set_option maxHeartbeats 1000000 in
theorem meet_ok (a b : Atom) : CallsTo C 190 [.agg a.ref,.agg b.ref] (fun r => r = .val (.bool (meetB a b))) := by
 refine callsTo_of_evC [0] Tryz.func190 rfl rfl rfl ?_
 refine cutR 20 [(0,.p (.agg a.ref)),(1,.p (.agg b.ref))] [] rfl ⟨wR,wR,trivial⟩ trivial ?_
 refine evRegion_ops _ rfl rfl ?_
 refine evOps_box 199 (.tmp 0) 2 2 a.ref rfl rfl rfl rfl rfl (ref_len a) (allOne_mapP (ref_one a)) rfl rfl (kill_mapP _ _) ?_
 refine evOps_box 199 (.tmp 1) 3 3 b.ref rfl rfl rfl rfl rfl (ref_len b) (allOne_mapP (ref_one b)) rfl rfl (kill_mapP _ _) ?_
 refine loopR 20 (fun i : Nat => [(2,.ptr 2 0),(3,.ptr 3 0),(5,.p (.int .i64 i))]) (fun _ => [(2,mapP a.ref),(3,mapP b.ref)])
  (fun i => i ≤ 256 ∧ ∀ j,j < i → (a.fit (UInt8.ofNat j) && b.fit (UInt8.ofNat j)) = false) (fun i => 256 - i) 0 ⟨Nat.zero_le _,fun j h => absurd h (Nat.not_lt_zero _)⟩ rfl ⟨wR,wR,wR,trivial⟩ ⟨hasO_eq rfl (kill_mapP _ _),hO1 rfl,trivial⟩ ?_
 rintro i ⟨hi,hno⟩
 refine al_dec (fun hlt => ?_) (fun hge => ?_)
 ·have hlt : i < 256 := by
   have : (i : Int) < 256 := hlt
   omega
  have hw5 : IntKind.i64.wrap ((i : Int) + 1) = ((i + 1 : Nat) : Int) := by rw [wrap64 (by omega) (by omega)]; omega
  have next : (a.fit (UInt8.ofNat i) && b.fit (UInt8.ofNat i)) = false → i + 1 ≤ 256 ∧ ∀ j,j < i + 1 → (a.fit (UInt8.ofNat j) && b.fit (UInt8.ofNat j)) = false := fun h => ⟨hlt,fun j hj => by
   by_cases e : j = i
   ·rw [e]; exact h
   ·exact hno j (by omega)⟩
  refine ⟨none,?_⟩
  refine ⟨i,rfl,hlt,true,2 + i * 1,rfl,_,_,_,ref_split a hlt,ref_take a hlt,?_⟩
  cases ha : a.fit (UInt8.ofNat i) with
  | false => exact ⟨_,hw5,roundR (i + 1) (next (by rw [ha]; rfl)) (by show 256 - (i + 1) < 256 - i; omega) rfl ⟨wR,wR,wR,trivial⟩ ⟨hO1 rfl,hO1 rfl,trivial⟩⟩
  | true =>
    refine ⟨i,rfl,hlt,true,2 + i * 1,rfl,_,_,_,ref_split b hlt,ref_take b hlt,?_⟩
    cases hb : b.fit (UInt8.ofNat i) with
    | false => exact ⟨_,hw5,roundR (i + 1) (next (by rw [ha,hb]; rfl)) (by show 256 - (i + 1) < 256 - i; omega) rfl ⟨wR,wR,wR,trivial⟩ ⟨hO1 rfl,hO1 rfl,trivial⟩⟩
    | true =>
      have : meetB a b = true := meet_of ha hb
      rw [this]
      exact rfl
 ·have hge : i = 256 := by
   have hi : i ≤ 256 := hi
   have : ¬ (i : Int) < 256 := hge
   omega
  subst hge
  have : meetB a b = false := by
   unfold meetB
   rw [List.any_eq_false]
   intro j hj
   rw [hno j (List.mem_range.1 hj)]
   simp
  rw [this]
  exact rfl
end Qv

end

section
open Go Go.Proofs Go.RowKit
namespace Qv
def comV (a b : List Atom) (i k : Nat) : Bool := comR (a.drop i) (b.drop k)
theorem comV_nn (a b : List Atom) : comV a b a.length b.length = true := by
 unfold comV
 rw [List.drop_length,List.drop_length]
 exact comR_nn
theorem comV_cn {a b : List Atom} {i : Nat} {c : Atom} (h : a[i]? = some c) : comV a b i b.length = (c.isStar && comV a b (i + 1) b.length) := by
 unfold comV
 rw [drop_at h,List.drop_length]
 exact comR_cn _ _
theorem comV_nc {a b : List Atom} {k : Nat} {d : Atom} (h : b[k]? = some d) : comV a b a.length k = (d.isStar && comV a b a.length (k + 1)) := by
 unfold comV
 rw [drop_at h,List.drop_length]
 exact comR_nc _ _
theorem comV_cc {a b : List Atom} {i k : Nat} {c d : Atom} (h : a[i]? = some c) (h2 : b[k]? = some d) :
 comV a b i k = ((c.isStar && (comV a b (i + 1) k || (!d.isStar && comV a b i (k + 1)))) || (d.isStar && (comV a b i (k + 1) || (!c.isStar && comV a b (i + 1) k))) || (!c.isStar && !d.isStar && meetB c d && comV a b (i + 1) (k + 1))) := by
 unfold comV
 rw [drop_at h,drop_at h2]
 exact comR_cc _ _ _ _
structure Tbl (V : Nat → Nat → Bool) (la lb : Nat) (row : List Bool) (i j : Int) : Prop where
 len : row.length = (la + 1) * (lb + 1)
 at_ : ∀ i' k' : Nat,i' ≤ la → k' ≤ lb → (i < (i' : Int) ∨ ((i' : Int) = i ∧ j ≤ (k' : Int))) → row.getD (i' * (lb + 1) + k') false = V i' k'
theorem tbl_lt {la lb i k : Nat} (hi : i ≤ la) (hk : k ≤ lb) : i * (lb + 1) + k < (la + 1) * (lb + 1) := by
 have := Nat.mul_le_mul_right (lb + 1) hi
 rw [Nat.add_mul la 1]
 omega
theorem Tbl.get {V : Nat → Nat → Bool} {la lb : Nat} {row : List Bool} {i j : Int} (h : Tbl V la lb row i j) {i' k' : Nat} (hi : i' ≤ la) (hk : k' ≤ lb) (hd : i < (i' : Int) ∨ ((i' : Int) = i ∧ j ≤ (k' : Int))) :
 ∃ hl : i' * (lb + 1) + k' < row.length,row[i' * (lb + 1) + k'] = V i' k' := by
 have hl : i' * (lb + 1) + k' < row.length := by rw [h.len]; exact tbl_lt hi hk
 refine ⟨hl,?_⟩
 have := h.at_ i' k' hi hk hd
 rw [List.getD_eq_getElem?_getD,List.getElem?_eq_getElem hl] at this
 exact this
theorem Tbl.put {V : Nat → Nat → Bool} {la lb : Nat} {row : List Bool} {i k : Nat} (h : Tbl V la lb row i ((k : Int) + 1)) (hi : i ≤ la) (hk : k ≤ lb) : Tbl V la lb (row.set (i * (lb + 1) + k) (V i k)) i k := by
 refine ⟨by rw [List.length_set]; exact h.len,fun i' k' hi' hk' hd => ?_⟩
 rw [List.getD_eq_getElem?_getD]
 by_cases e : i' = i ∧ k' = k
 ·obtain ⟨rfl,rfl⟩ := e
  rw [List.getElem?_set_self (by rw [h.len]; exact tbl_lt hi hk)]
  rfl
 ·have hne : i * (lb + 1) + k ≠ i' * (lb + 1) + k' := by
   rcases hd with hd | ⟨hd,hd2⟩
   ·have : i + 1 ≤ i' := by omega
    have := Nat.mul_le_mul_right (lb + 1) this
    rw [Nat.add_mul i 1] at this
    omega
   ·have : i' = i := by omega
    subst this
    intro e2
    exact e ⟨rfl,by omega⟩
  rw [List.getElem?_set_ne hne,← List.getD_eq_getElem?_getD]
  refine h.at_ i' k' hi' hk' ?_
  rcases hd with hd | ⟨hd,hd2⟩
  ·exact .inl hd
  ·refine .inr ⟨hd,?_⟩
   have : i' = i := by omega
   have : k' ≠ k := fun e2 => e ⟨this,e2⟩
   omega
theorem Tbl.next {V : Nat → Nat → Bool} {la lb : Nat} {row : List Bool} {i : Int} (h : Tbl V la lb row i 0) : Tbl V la lb row (i - 1) ((lb : Int) + 1) :=
 ⟨h.len,fun i' k' hi hk hd => h.at_ i' k' hi hk (by omega)⟩
theorem Tbl.inner {V : Nat → Nat → Bool} {la lb : Nat} {row : List Bool} {i : Int} (h : Tbl V la lb row i ((lb : Int) + 1)) : Tbl V la lb row i ((lb : Int) + 1) := h
theorem ref_get {l : List Atom} {i : Nat} {c : Atom} (h : l[i]? = some c) : (refOnes l)[((i : Nat) : Int).toNat]? = some (.bool c.isStar :: .bool c.isLit :: c.tbl.map AV.bool) := by
 simp [refOnes,h,Atom.ref,elC]
theorem len258 (c : Atom) : (AV.bool c.isStar :: .bool c.isLit :: c.tbl.map AV.bool).length = 258 := by
 simp [tbl_len]
abbrev cmS (a b : List Atom) (z : Int) (more : List (Nat × FV)) : List (Nat × FV) :=
 (0,.p (.sl (refOnes a))) :: (1,.p (.sl (refOnes b))) :: (5,.p (.int .i64 ((b.length + 1 : Nat) : Int))) :: (6,.osl 18 4 1) :: (7,.p (.int .i64 z)) :: more
set_option maxRecDepth 100000 in
set_option maxHeartbeats 4000000 in
theorem common_ref_ok (a b : List Atom) (ha : a.length ≤ 2 ^ 20) (hb : b.length ≤ 2 ^ 20) : CallsTo C 165 [.sl (refOnes a),.sl (refOnes b)] (fun r => r = .val (.bool (comR a b))) := by
 have hla : ((refOnes a).length : Int) = (a.length : Int) := by simp [refOnes]
 have hlb : ((refOnes b).length : Int) = (b.length : Int) := by simp [refOnes]
 have hN : (a.length + 1) * (b.length + 1) ≤ 2 ^ 42 := Nat.le_trans (Nat.mul_le_mul (show a.length + 1 ≤ 2 ^ 20 + 1 by omega) (show b.length + 1 ≤ 2 ^ 20 + 1 by omega)) (by decide)
 have hpos : 0 < (a.length + 1) * (b.length + 1) := Nat.mul_pos (by omega) (by omega)
 have hadd : ∀ x y : Nat,x ≤ 2 ^ 50 → y ≤ 2 ^ 50 → IntKind.i64.wrap ((x : Int) + (y : Int)) = ((x + y : Nat) : Int) := fun x y h1 h2 => by rw [wrap64 (by omega) (by omega)]; omega
 have hadd1 : ∀ x : Nat,x ≤ 2 ^ 50 → IntKind.i64.wrap ((x : Int) + 1) = ((x + 1 : Nat) : Int) := fun x h1 => by rw [wrap64 (by omega) (by omega)]; omega
 have hmul : ∀ x : Nat,x ≤ a.length + 1 → IntKind.i64.wrap ((x : Int) * ((b.length + 1 : Nat) : Int)) = ((x * (b.length + 1) : Nat) : Int) := fun x h1 => by
  have h2 : x * (b.length + 1) ≤ (a.length + 1) * (b.length + 1) := Nat.mul_le_mul_right _ h1
  rw [← Int.natCast_mul,wrap64 (by omega) (by omega)]
 have hle : ∀ x k : Nat,x ≤ a.length + 1 → k ≤ b.length + 1 → x * (b.length + 1) ≤ 2 ^ 42 ∧ x * (b.length + 1) + k ≤ 2 ^ 43 := fun x k h1 h2 => by
  have h2 : x * (b.length + 1) ≤ (a.length + 1) * (b.length + 1) := Nat.mul_le_mul_right _ h1
  omega
 refine callsTo_of_evO ⟨[],[],false,[],[],[]⟩ [16] Tryz.func165 rfl rfl rfl ?_
 have w1 : IntKind.i64.wrap (((refOnes b).length : Int) + 1) = ((b.length + 1 : Nat) : Int) := by rw [hlb]; exact hadd1 _ (by omega)
 have w2 : IntKind.i64.wrap (((refOnes a).length : Int) + 1) = ((a.length + 1 : Nat) : Int) := by rw [hla]; exact hadd1 _ (by omega)
 refine ⟨_,w1,?_⟩
 refine ⟨_,w2,?_⟩
 refine ⟨_,hmul (a.length + 1) (Nat.le_refl _),?_⟩
 refine ⟨(a.length + 1) * (b.length + 1),rfl,rfl,by omega,by omega,encSet (List.replicate ((a.length + 1) * (b.length + 1)) false),kill_row _ _,?_⟩
 refine loopR 198 (fun x : Int × List Bool => cmS a b x.1 []) (fun x => [(18,encSet x.2)]) (fun x => -1 ≤ x.1 ∧ x.1 ≤ a.length ∧ Tbl (comV a b) a.length b.length x.2 x.1 ((b.length : Int) + 1)) (fun x => (x.1 + 1).toNat) ((a.length : Int),List.replicate ((a.length + 1) * (b.length + 1)) false)
  ⟨by omega,Int.le_refl _,by simp,fun i' k' hi hk hd => by omega⟩ rfl ⟨wR,wR,wR,wR,Weak.eq (by show FV.p (.int .i64 ((refOnes a).length : Int)) = _; rw [hla]),trivial⟩ ⟨hO1 rfl,trivial⟩ ?_
 rintro ⟨z,row⟩ ⟨hz1,hz2,hT⟩
 have hz1 : -1 ≤ z := hz1
 have hz2 : z ≤ (a.length : Int) := hz2
 have hT : Tbl (comV a b) a.length b.length row z ((b.length : Int) + 1) := hT
 refine al_dec (fun hge => ?_) (fun hlt => ?_)
 ·have hge : z ≥ 0 := hge
  obtain ⟨i,rfl⟩ : ∃ i : Nat,z = (i : Int) := ⟨z.toNat,by omega⟩
  have hi : i ≤ a.length := by omega
  have hsub : IntKind.i64.wrap ((i : Int) - 1) = (i : Int) - 1 := by rw [wrap64 (by omega) (by omega)]
  refine loopR 198 (fun x : Int × List Bool => cmS a b i [(8,.p (.int .i64 x.1))]) (fun x => [(18,encSet x.2)]) (fun x => -1 ≤ x.1 ∧ x.1 ≤ b.length ∧ Tbl (comV a b) a.length b.length x.2 i (x.1 + 1)) (fun x => (x.1 + 1).toNat) ((b.length : Int),row)
   ⟨by omega,Int.le_refl _,hT⟩ rfl ⟨wR,wR,wR,wR,wR,Weak.eq (by show FV.p (.int .i64 ((refOnes b).length : Int)) = _; rw [hlb]),trivial⟩ ⟨hO1 rfl,trivial⟩ ?_
  rintro ⟨w,row⟩ ⟨hw1,hw2,hT⟩
  have hw1 : -1 ≤ w := hw1
  have hw2 : w ≤ (b.length : Int) := hw2
  have hT : Tbl (comV a b) a.length b.length row i (w + 1) := hT
  refine al_dec (fun hgk => ?_) (fun hlk => ?_)
  ·have hgk : w ≥ 0 := hgk
   obtain ⟨k,rfl⟩ : ∃ k : Nat,w = (k : Int) := ⟨w.toNat,by omega⟩
   have hk : k ≤ b.length := by omega
   have hsubk : IntKind.i64.wrap ((k : Int) - 1) = (k : Int) - 1 := by rw [wrap64 (by omega) (by omega)]
   have hhere : i * (b.length + 1) + k < row.length := by rw [hT.len]; exact tbl_lt hi hk
   refine share (T := ?T) (fun H => ?main) ?rest
   case main =>
    refine ⟨none,?_⟩
    rcases Nat.lt_or_ge i a.length with hia | hia
    ·obtain ⟨c,hc⟩ : ∃ c,a[i]? = some c := ⟨_,List.getElem?_eq_getElem hia⟩
     obtain ⟨l1,v1⟩ := hT.get (i' := i + 1) (k' := k) hia hk (.inl (by omega))
     refine al_eq (fun e => absurd (show (i : Int) = ((refOnes a).length : Int) from e) (by omega)) (fun _ => ?_)
     refine ⟨none,?_⟩
     refine al_dec (fun _ => ?_) (fun e => absurd (show (i : Int) < ((refOnes a).length : Int) by omega) e)
     rcases Nat.lt_or_ge k b.length with hkb | hkb
     ·obtain ⟨d,hd⟩ : ∃ d,b[k]? = some d := ⟨_,List.getElem?_eq_getElem hkb⟩
      obtain ⟨l2,v2⟩ := hT.get (i' := i) (k' := k + 1) hi hkb (.inr ⟨rfl,by omega⟩)
      obtain ⟨l3,v3⟩ := hT.get (i' := i + 1) (k' := k + 1) hia hkb (.inl (by omega))
      have hV := comV_cc (a := a) (b := b) hc hd
      cases hcs : c.isStar with
      | true =>
        cases hds : d.isStar with
        | true =>
          refine ⟨by omega,_,ref_get hc,len258 c,?_⟩
          rw [hcs]
          refine ⟨none,?_⟩
          refine ⟨_,hadd1 i (by omega),?_⟩
          refine ⟨_,hmul (i + 1) (by omega),?_⟩
          refine ⟨_,hadd ((i + 1) * (b.length + 1)) k (by have := hle (i + 1) k (by omega) (by omega); omega) (by omega),?_⟩
          refine ⟨(i + 1) * (b.length + 1) + k,((i + 1) * (b.length + 1) + k) * 1,rfl,rfl,by show ((i + 1) * (b.length + 1) + k) * 1 + 1 ≤ (encSet row).length; rw [encSet_length]; omega,_,_,_,encSet_split l1,encSet_at l1,?_⟩
          rw [v1]
          cases h1 : comV a b (i + 1) k with
          | true =>
            refine ⟨none,?_⟩
            refine al_dec (fun _ => ?_) (fun e => absurd (show (k : Int) < ((refOnes b).length : Int) by omega) e)
            refine ⟨by omega,_,ref_get hd,len258 d,?_⟩
            rw [hds]
            refine ⟨none,?_⟩
            refine ⟨none,?_⟩
            refine al_dec (fun _ => ?_) (fun e => absurd (show (i : Int) < ((refOnes a).length : Int) by omega) e)
            refine al_dec (fun _ => ?_) (fun e => absurd (show (k : Int) < ((refOnes b).length : Int) by omega) e)
            refine ⟨by omega,_,ref_get hc,len258 c,?_⟩
            rw [hcs]
            refine al_not ?_
            have hv : FV.p (.bool true) = .p (.bool (comV a b i k)) := by rw [hV]; simp [hcs,hds,h1]
            refine cutR 198 (cmS a b i [(8,.p (.int .i64 k)),(9,.p (.bool (comV a b i k)))]) [(18,encSet row)] rfl ⟨wR,wR,wR,wR,wR,wR,Weak.eq hv,trivial⟩ ⟨hO1 rfl,trivial⟩ ?_
            exact H.out
          | false =>
            refine al_dec (fun _ => ?_) (fun e => absurd (show (k : Int) < ((refOnes b).length : Int) by omega) e)
            refine ⟨by omega,_,ref_get hd,len258 d,?_⟩
            rw [hds]
            refine al_not ?_
            refine ⟨none,?_⟩
            refine al_dec (fun _ => ?_) (fun e => absurd (show (k : Int) < ((refOnes b).length : Int) by omega) e)
            refine ⟨by omega,_,ref_get hd,len258 d,?_⟩
            rw [hds]
            refine ⟨none,?_⟩
            refine ⟨_,hmul i (by omega),?_⟩
            refine ⟨_,hadd (i * (b.length + 1)) k (by have := hle i k (by omega) (by omega); omega) (by omega),?_⟩
            refine ⟨_,hadd1 (i * (b.length + 1) + k) (by have := hle i k (by omega) (by omega); omega),?_⟩
            refine ⟨i * (b.length + 1) + k + 1,(i * (b.length + 1) + k + 1) * 1,rfl,rfl,by show (i * (b.length + 1) + k + 1) * 1 + 1 ≤ (encSet row).length; rw [encSet_length]; omega,_,_,_,encSet_split l2,encSet_at l2,?_⟩
            rw [v2]
            cases h2 : comV a b i (k + 1) with
            | true =>
              refine ⟨none,?_⟩
              refine al_dec (fun _ => ?_) (fun e => absurd (show (i : Int) < ((refOnes a).length : Int) by omega) e)
              refine al_dec (fun _ => ?_) (fun e => absurd (show (k : Int) < ((refOnes b).length : Int) by omega) e)
              refine ⟨by omega,_,ref_get hc,len258 c,?_⟩
              rw [hcs]
              refine al_not ?_
              have hv : FV.p (.bool true) = .p (.bool (comV a b i k)) := by rw [hV]; simp [hcs,hds,h1,h2]
              refine cutR 198 (cmS a b i [(8,.p (.int .i64 k)),(9,.p (.bool (comV a b i k)))]) [(18,encSet row)] rfl ⟨wR,wR,wR,wR,wR,wR,Weak.eq hv,trivial⟩ ⟨hO1 rfl,trivial⟩ ?_
              exact H.out
            | false =>
              refine al_dec (fun _ => ?_) (fun e => absurd (show (i : Int) < ((refOnes a).length : Int) by omega) e)
              refine ⟨by omega,_,ref_get hc,len258 c,?_⟩
              rw [hcs]
              refine al_not ?_
              refine ⟨none,?_⟩
              refine al_dec (fun _ => ?_) (fun e => absurd (show (i : Int) < ((refOnes a).length : Int) by omega) e)
              refine al_dec (fun _ => ?_) (fun e => absurd (show (k : Int) < ((refOnes b).length : Int) by omega) e)
              refine ⟨by omega,_,ref_get hc,len258 c,?_⟩
              rw [hcs]
              refine al_not ?_
              have hv : FV.p (.bool false) = .p (.bool (comV a b i k)) := by rw [hV]; simp [hcs,hds,h1,h2]
              refine cutR 198 (cmS a b i [(8,.p (.int .i64 k)),(9,.p (.bool (comV a b i k)))]) [(18,encSet row)] rfl ⟨wR,wR,wR,wR,wR,wR,Weak.eq hv,trivial⟩ ⟨hO1 rfl,trivial⟩ ?_
              exact H.out
        | false =>
          refine ⟨by omega,_,ref_get hc,len258 c,?_⟩
          rw [hcs]
          refine ⟨none,?_⟩
          refine ⟨_,hadd1 i (by omega),?_⟩
          refine ⟨_,hmul (i + 1) (by omega),?_⟩
          refine ⟨_,hadd ((i + 1) * (b.length + 1)) k (by have := hle (i + 1) k (by omega) (by omega); omega) (by omega),?_⟩
          refine ⟨(i + 1) * (b.length + 1) + k,((i + 1) * (b.length + 1) + k) * 1,rfl,rfl,by show ((i + 1) * (b.length + 1) + k) * 1 + 1 ≤ (encSet row).length; rw [encSet_length]; omega,_,_,_,encSet_split l1,encSet_at l1,?_⟩
          rw [v1]
          cases h1 : comV a b (i + 1) k with
          | true =>
            refine ⟨none,?_⟩
            refine al_dec (fun _ => ?_) (fun e => absurd (show (k : Int) < ((refOnes b).length : Int) by omega) e)
            refine ⟨by omega,_,ref_get hd,len258 d,?_⟩
            rw [hds]
            refine ⟨none,?_⟩
            refine al_dec (fun _ => ?_) (fun e => absurd (show (i : Int) < ((refOnes a).length : Int) by omega) e)
            refine al_dec (fun _ => ?_) (fun e => absurd (show (k : Int) < ((refOnes b).length : Int) by omega) e)
            refine ⟨by omega,_,ref_get hc,len258 c,?_⟩
            rw [hcs]
            refine al_not ?_
            have hv : FV.p (.bool true) = .p (.bool (comV a b i k)) := by rw [hV]; simp [hcs,hds,h1]
            refine cutR 198 (cmS a b i [(8,.p (.int .i64 k)),(9,.p (.bool (comV a b i k)))]) [(18,encSet row)] rfl ⟨wR,wR,wR,wR,wR,wR,Weak.eq hv,trivial⟩ ⟨hO1 rfl,trivial⟩ ?_
            exact H.out
          | false =>
            refine al_dec (fun _ => ?_) (fun e => absurd (show (k : Int) < ((refOnes b).length : Int) by omega) e)
            refine ⟨by omega,_,ref_get hd,len258 d,?_⟩
            rw [hds]
            refine al_not ?_
            refine ⟨_,hmul i (by omega),?_⟩
            refine ⟨_,hadd (i * (b.length + 1)) k (by have := hle i k (by omega) (by omega); omega) (by omega),?_⟩
            refine ⟨_,hadd1 (i * (b.length + 1) + k) (by have := hle i k (by omega) (by omega); omega),?_⟩
            refine ⟨i * (b.length + 1) + k + 1,(i * (b.length + 1) + k + 1) * 1,rfl,rfl,by show (i * (b.length + 1) + k + 1) * 1 + 1 ≤ (encSet row).length; rw [encSet_length]; omega,_,_,_,encSet_split l2,encSet_at l2,?_⟩
            rw [v2]
            cases h2 : comV a b i (k + 1) with
            | true =>
              refine ⟨none,?_⟩
              refine al_dec (fun _ => ?_) (fun e => absurd (show (k : Int) < ((refOnes b).length : Int) by omega) e)
              refine ⟨by omega,_,ref_get hd,len258 d,?_⟩
              rw [hds]
              refine ⟨none,?_⟩
              refine al_dec (fun _ => ?_) (fun e => absurd (show (i : Int) < ((refOnes a).length : Int) by omega) e)
              refine al_dec (fun _ => ?_) (fun e => absurd (show (k : Int) < ((refOnes b).length : Int) by omega) e)
              refine ⟨by omega,_,ref_get hc,len258 c,?_⟩
              rw [hcs]
              refine al_not ?_
              have hv : FV.p (.bool true) = .p (.bool (comV a b i k)) := by rw [hV]; simp [hcs,hds,h1,h2]
              refine cutR 198 (cmS a b i [(8,.p (.int .i64 k)),(9,.p (.bool (comV a b i k)))]) [(18,encSet row)] rfl ⟨wR,wR,wR,wR,wR,wR,Weak.eq hv,trivial⟩ ⟨hO1 rfl,trivial⟩ ?_
              exact H.out
            | false =>
              refine ⟨none,?_⟩
              refine al_dec (fun _ => ?_) (fun e => absurd (show (k : Int) < ((refOnes b).length : Int) by omega) e)
              refine ⟨by omega,_,ref_get hd,len258 d,?_⟩
              rw [hds]
              refine ⟨none,?_⟩
              refine al_dec (fun _ => ?_) (fun e => absurd (show (i : Int) < ((refOnes a).length : Int) by omega) e)
              refine al_dec (fun _ => ?_) (fun e => absurd (show (k : Int) < ((refOnes b).length : Int) by omega) e)
              refine ⟨by omega,_,ref_get hc,len258 c,?_⟩
              rw [hcs]
              refine al_not ?_
              have hv : FV.p (.bool false) = .p (.bool (comV a b i k)) := by rw [hV]; simp [hcs,hds,h1,h2]
              refine cutR 198 (cmS a b i [(8,.p (.int .i64 k)),(9,.p (.bool (comV a b i k)))]) [(18,encSet row)] rfl ⟨wR,wR,wR,wR,wR,wR,Weak.eq hv,trivial⟩ ⟨hO1 rfl,trivial⟩ ?_
              exact H.out
      | false =>
        cases hds : d.isStar with
        | true =>
          refine ⟨by omega,_,ref_get hc,len258 c,?_⟩
          rw [hcs]
          refine ⟨none,?_⟩
          refine al_dec (fun _ => ?_) (fun e => absurd (show (k : Int) < ((refOnes b).length : Int) by omega) e)
          refine ⟨by omega,_,ref_get hd,len258 d,?_⟩
          rw [hds]
          refine ⟨none,?_⟩
          refine ⟨_,hmul i (by omega),?_⟩
          refine ⟨_,hadd (i * (b.length + 1)) k (by have := hle i k (by omega) (by omega); omega) (by omega),?_⟩
          refine ⟨_,hadd1 (i * (b.length + 1) + k) (by have := hle i k (by omega) (by omega); omega),?_⟩
          refine ⟨i * (b.length + 1) + k + 1,(i * (b.length + 1) + k + 1) * 1,rfl,rfl,by show (i * (b.length + 1) + k + 1) * 1 + 1 ≤ (encSet row).length; rw [encSet_length]; omega,_,_,_,encSet_split l2,encSet_at l2,?_⟩
          rw [v2]
          cases h2 : comV a b i (k + 1) with
          | true =>
            refine ⟨none,?_⟩
            refine al_dec (fun _ => ?_) (fun e => absurd (show (i : Int) < ((refOnes a).length : Int) by omega) e)
            refine al_dec (fun _ => ?_) (fun e => absurd (show (k : Int) < ((refOnes b).length : Int) by omega) e)
            refine ⟨by omega,_,ref_get hc,len258 c,?_⟩
            rw [hcs]
            refine al_not ?_
            refine ⟨by omega,_,ref_get hd,len258 d,?_⟩
            rw [hds]
            refine al_not ?_
            have hv : FV.p (.bool true) = .p (.bool (comV a b i k)) := by rw [hV]; simp [hcs,hds,h2]
            refine cutR 198 (cmS a b i [(8,.p (.int .i64 k)),(9,.p (.bool (comV a b i k)))]) [(18,encSet row)] rfl ⟨wR,wR,wR,wR,wR,wR,Weak.eq hv,trivial⟩ ⟨hO1 rfl,trivial⟩ ?_
            exact H.out
          | false =>
            refine al_dec (fun _ => ?_) (fun e => absurd (show (i : Int) < ((refOnes a).length : Int) by omega) e)
            refine ⟨by omega,_,ref_get hc,len258 c,?_⟩
            rw [hcs]
            refine al_not ?_
            refine ⟨_,hadd1 i (by omega),?_⟩
            refine ⟨_,hmul (i + 1) (by omega),?_⟩
            refine ⟨_,hadd ((i + 1) * (b.length + 1)) k (by have := hle (i + 1) k (by omega) (by omega); omega) (by omega),?_⟩
            refine ⟨(i + 1) * (b.length + 1) + k,((i + 1) * (b.length + 1) + k) * 1,rfl,rfl,by show ((i + 1) * (b.length + 1) + k) * 1 + 1 ≤ (encSet row).length; rw [encSet_length]; omega,_,_,_,encSet_split l1,encSet_at l1,?_⟩
            rw [v1]
            cases h1 : comV a b (i + 1) k with
            | true =>
              refine ⟨none,?_⟩
              refine al_dec (fun _ => ?_) (fun e => absurd (show (i : Int) < ((refOnes a).length : Int) by omega) e)
              refine al_dec (fun _ => ?_) (fun e => absurd (show (k : Int) < ((refOnes b).length : Int) by omega) e)
              refine ⟨by omega,_,ref_get hc,len258 c,?_⟩
              rw [hcs]
              refine al_not ?_
              refine ⟨by omega,_,ref_get hd,len258 d,?_⟩
              rw [hds]
              refine al_not ?_
              have hv : FV.p (.bool true) = .p (.bool (comV a b i k)) := by rw [hV]; simp [hcs,hds,h2,h1]
              refine cutR 198 (cmS a b i [(8,.p (.int .i64 k)),(9,.p (.bool (comV a b i k)))]) [(18,encSet row)] rfl ⟨wR,wR,wR,wR,wR,wR,Weak.eq hv,trivial⟩ ⟨hO1 rfl,trivial⟩ ?_
              exact H.out
            | false =>
              refine ⟨none,?_⟩
              refine al_dec (fun _ => ?_) (fun e => absurd (show (i : Int) < ((refOnes a).length : Int) by omega) e)
              refine al_dec (fun _ => ?_) (fun e => absurd (show (k : Int) < ((refOnes b).length : Int) by omega) e)
              refine ⟨by omega,_,ref_get hc,len258 c,?_⟩
              rw [hcs]
              refine al_not ?_
              refine ⟨by omega,_,ref_get hd,len258 d,?_⟩
              rw [hds]
              refine al_not ?_
              have hv : FV.p (.bool false) = .p (.bool (comV a b i k)) := by rw [hV]; simp [hcs,hds,h2,h1]
              refine cutR 198 (cmS a b i [(8,.p (.int .i64 k)),(9,.p (.bool (comV a b i k)))]) [(18,encSet row)] rfl ⟨wR,wR,wR,wR,wR,wR,Weak.eq hv,trivial⟩ ⟨hO1 rfl,trivial⟩ ?_
              exact H.out
        | false =>
          refine ⟨by omega,_,ref_get hc,len258 c,?_⟩
          rw [hcs]
          refine ⟨none,?_⟩
          refine al_dec (fun _ => ?_) (fun e => absurd (show (k : Int) < ((refOnes b).length : Int) by omega) e)
          refine ⟨by omega,_,ref_get hd,len258 d,?_⟩
          rw [hds]
          refine ⟨none,?_⟩
          refine al_dec (fun _ => ?_) (fun e => absurd (show (i : Int) < ((refOnes a).length : Int) by omega) e)
          refine al_dec (fun _ => ?_) (fun e => absurd (show (k : Int) < ((refOnes b).length : Int) by omega) e)
          refine ⟨by omega,_,ref_get hc,len258 c,?_⟩
          rw [hcs]
          refine al_not ?_
          refine ⟨by omega,_,ref_get hd,len258 d,?_⟩
          rw [hds]
          refine al_not ?_
          refine lex2 25 (by kernel_rfl) ?_
          refine ⟨by omega,_,ref_get hc,len258 c,?_⟩
          refine evS2_loadI 199 (.tmp 167) c.ref rfl rfl rfl rfl (ref_len c) ?_
          refine ⟨by omega,_,ref_get hd,len258 d,?_⟩
          refine evS2_loadI 199 (.tmp 171) d.ref rfl rfl rfl rfl (ref_len d) ?_
          have hm := meet_ok c d
          cases hmm : meetB c d with
          | true =>
            rw [hmm] at hm
            refine ⟨_,hm.opn,?_⟩
            refine ⟨_,hadd1 i (by omega),?_⟩
            refine ⟨_,hmul (i + 1) (by omega),?_⟩
            refine ⟨_,hadd ((i + 1) * (b.length + 1)) k (by have := hle (i + 1) k (by omega) (by omega); omega) (by omega),?_⟩
            refine ⟨_,hadd1 ((i + 1) * (b.length + 1) + k) (by have := hle (i + 1) k (by omega) (by omega); omega),?_⟩
            refine ⟨(i + 1) * (b.length + 1) + k + 1,((i + 1) * (b.length + 1) + k + 1) * 1,rfl,rfl,by show ((i + 1) * (b.length + 1) + k + 1) * 1 + 1 ≤ (encSet row).length; rw [encSet_length]; omega,_,_,_,encSet_split l3,encSet_at l3,?_⟩
            rw [v3]
            cases h3 : comV a b (i + 1) (k + 1) with
            | true =>
              have hv : FV.p (.bool true) = .p (.bool (comV a b i k)) := by rw [hV]; simp [hcs,hds,hmm,h3]
              refine cutR 198 (cmS a b i [(8,.p (.int .i64 k)),(9,.p (.bool (comV a b i k)))]) [(18,encSet row)] rfl ⟨wR,wR,wR,wR,wR,wR,Weak.eq hv,trivial⟩ ⟨hO1 rfl,trivial⟩ ?_
              exact H.out
            | false =>
              have hv : FV.p (.bool false) = .p (.bool (comV a b i k)) := by rw [hV]; simp [hcs,hds,hmm,h3]
              refine cutR 198 (cmS a b i [(8,.p (.int .i64 k)),(9,.p (.bool (comV a b i k)))]) [(18,encSet row)] rfl ⟨wR,wR,wR,wR,wR,wR,Weak.eq hv,trivial⟩ ⟨hO1 rfl,trivial⟩ ?_
              exact H.out
          | false =>
            rw [hmm] at hm
            refine ⟨_,hm.opn,?_⟩
            have hv : FV.p (.bool false) = .p (.bool (comV a b i k)) := by rw [hV]; simp [hcs,hds,hmm]
            refine cutR 198 (cmS a b i [(8,.p (.int .i64 k)),(9,.p (.bool (comV a b i k)))]) [(18,encSet row)] rfl ⟨wR,wR,wR,wR,wR,wR,Weak.eq hv,trivial⟩ ⟨hO1 rfl,trivial⟩ ?_
            exact H.out
     ·have hkb : k = b.length := by omega
      have hV : comV a b i k = (c.isStar && comV a b (i + 1) k) := by rw [hkb]; exact comV_cn hc
      cases hcs : c.isStar with
      | true =>
        refine ⟨by omega,_,ref_get hc,len258 c,?_⟩
        rw [hcs]
        refine ⟨none,?_⟩
        refine ⟨_,hadd1 i (by omega),?_⟩
        refine ⟨_,hmul (i + 1) (by omega),?_⟩
        refine ⟨_,hadd ((i + 1) * (b.length + 1)) k (by have := hle (i + 1) k (by omega) (by omega); omega) (by omega),?_⟩
        refine ⟨(i + 1) * (b.length + 1) + k,((i + 1) * (b.length + 1) + k) * 1,rfl,rfl,by show ((i + 1) * (b.length + 1) + k) * 1 + 1 ≤ (encSet row).length; rw [encSet_length]; omega,_,_,_,encSet_split l1,encSet_at l1,?_⟩
        rw [v1]
        cases h1 : comV a b (i + 1) k with
        | true =>
          refine ⟨none,?_⟩
          refine al_dec (fun e => absurd (show (k : Int) < ((refOnes b).length : Int) from e) (by omega)) (fun _ => ?_)
          refine ⟨none,?_⟩
          refine al_dec (fun _ => ?_) (fun e => absurd (show (i : Int) < ((refOnes a).length : Int) by omega) e)
          refine al_dec (fun e => absurd (show (k : Int) < ((refOnes b).length : Int) from e) (by omega)) (fun _ => ?_)
          have hv : FV.p (.bool true) = .p (.bool (comV a b i k)) := by rw [hV]; simp [hcs,h1]
          refine cutR 198 (cmS a b i [(8,.p (.int .i64 k)),(9,.p (.bool (comV a b i k)))]) [(18,encSet row)] rfl ⟨wR,wR,wR,wR,wR,wR,Weak.eq hv,trivial⟩ ⟨hO1 rfl,trivial⟩ ?_
          exact H.out
        | false =>
          refine al_dec (fun e => absurd (show (k : Int) < ((refOnes b).length : Int) from e) (by omega)) (fun _ => ?_)
          refine ⟨none,?_⟩
          refine al_dec (fun e => absurd (show (k : Int) < ((refOnes b).length : Int) from e) (by omega)) (fun _ => ?_)
          refine ⟨none,?_⟩
          refine al_dec (fun _ => ?_) (fun e => absurd (show (i : Int) < ((refOnes a).length : Int) by omega) e)
          refine al_dec (fun e => absurd (show (k : Int) < ((refOnes b).length : Int) from e) (by omega)) (fun _ => ?_)
          have hv : FV.p (.bool false) = .p (.bool (comV a b i k)) := by rw [hV]; simp [hcs,h1]
          refine cutR 198 (cmS a b i [(8,.p (.int .i64 k)),(9,.p (.bool (comV a b i k)))]) [(18,encSet row)] rfl ⟨wR,wR,wR,wR,wR,wR,Weak.eq hv,trivial⟩ ⟨hO1 rfl,trivial⟩ ?_
          exact H.out
      | false =>
        refine ⟨by omega,_,ref_get hc,len258 c,?_⟩
        rw [hcs]
        refine ⟨none,?_⟩
        refine al_dec (fun e => absurd (show (k : Int) < ((refOnes b).length : Int) from e) (by omega)) (fun _ => ?_)
        refine ⟨none,?_⟩
        refine al_dec (fun _ => ?_) (fun e => absurd (show (i : Int) < ((refOnes a).length : Int) by omega) e)
        refine al_dec (fun e => absurd (show (k : Int) < ((refOnes b).length : Int) from e) (by omega)) (fun _ => ?_)
        have hv : FV.p (.bool false) = .p (.bool (comV a b i k)) := by rw [hV]; simp [hcs]
        refine cutR 198 (cmS a b i [(8,.p (.int .i64 k)),(9,.p (.bool (comV a b i k)))]) [(18,encSet row)] rfl ⟨wR,wR,wR,wR,wR,wR,Weak.eq hv,trivial⟩ ⟨hO1 rfl,trivial⟩ ?_
        exact H.out
    ·have hia : i = a.length := by omega
     refine al_eq (fun _ => ?_) (fun e => absurd (show (i : Int) = ((refOnes a).length : Int) by omega) e)
     rcases Nat.lt_or_ge k b.length with hkb | hkb
     ·obtain ⟨d,hd⟩ : ∃ d,b[k]? = some d := ⟨_,List.getElem?_eq_getElem hkb⟩
      obtain ⟨l2,v2⟩ := hT.get (i' := i) (k' := k + 1) hi hkb (.inr ⟨rfl,by omega⟩)
      have hV : comV a b i k = (d.isStar && comV a b i (k + 1)) := by rw [hia]; exact comV_nc hd
      refine al_eq (fun e => absurd (show (k : Int) = ((refOnes b).length : Int) from e) (by omega)) (fun _ => ?_)
      refine ⟨none,?_⟩
      refine al_dec (fun e => absurd (show (i : Int) < ((refOnes a).length : Int) from e) (by omega)) (fun _ => ?_)
      refine ⟨none,?_⟩
      refine al_dec (fun _ => ?_) (fun e => absurd (show (k : Int) < ((refOnes b).length : Int) by omega) e)
      cases hds : d.isStar with
      | true =>
        refine ⟨by omega,_,ref_get hd,len258 d,?_⟩
        rw [hds]
        refine ⟨none,?_⟩
        refine ⟨_,hmul i (by omega),?_⟩
        refine ⟨_,hadd (i * (b.length + 1)) k (by have := hle i k (by omega) (by omega); omega) (by omega),?_⟩
        refine ⟨_,hadd1 (i * (b.length + 1) + k) (by have := hle i k (by omega) (by omega); omega),?_⟩
        refine ⟨i * (b.length + 1) + k + 1,(i * (b.length + 1) + k + 1) * 1,rfl,rfl,by show (i * (b.length + 1) + k + 1) * 1 + 1 ≤ (encSet row).length; rw [encSet_length]; omega,_,_,_,encSet_split l2,encSet_at l2,?_⟩
        rw [v2]
        cases h2 : comV a b i (k + 1) with
        | true =>
          refine ⟨none,?_⟩
          refine al_dec (fun e => absurd (show (i : Int) < ((refOnes a).length : Int) from e) (by omega)) (fun _ => ?_)
          have hv : FV.p (.bool true) = .p (.bool (comV a b i k)) := by rw [hV]; simp [hds,h2]
          refine cutR 198 (cmS a b i [(8,.p (.int .i64 k)),(9,.p (.bool (comV a b i k)))]) [(18,encSet row)] rfl ⟨wR,wR,wR,wR,wR,wR,Weak.eq hv,trivial⟩ ⟨hO1 rfl,trivial⟩ ?_
          exact H.out
        | false =>
          refine al_dec (fun e => absurd (show (i : Int) < ((refOnes a).length : Int) from e) (by omega)) (fun _ => ?_)
          refine ⟨none,?_⟩
          refine al_dec (fun e => absurd (show (i : Int) < ((refOnes a).length : Int) from e) (by omega)) (fun _ => ?_)
          have hv : FV.p (.bool false) = .p (.bool (comV a b i k)) := by rw [hV]; simp [hds,h2]
          refine cutR 198 (cmS a b i [(8,.p (.int .i64 k)),(9,.p (.bool (comV a b i k)))]) [(18,encSet row)] rfl ⟨wR,wR,wR,wR,wR,wR,Weak.eq hv,trivial⟩ ⟨hO1 rfl,trivial⟩ ?_
          exact H.out
      | false =>
        refine ⟨by omega,_,ref_get hd,len258 d,?_⟩
        rw [hds]
        refine ⟨none,?_⟩
        refine al_dec (fun e => absurd (show (i : Int) < ((refOnes a).length : Int) from e) (by omega)) (fun _ => ?_)
        have hv : FV.p (.bool false) = .p (.bool (comV a b i k)) := by rw [hV]; simp [hds]
        refine cutR 198 (cmS a b i [(8,.p (.int .i64 k)),(9,.p (.bool (comV a b i k)))]) [(18,encSet row)] rfl ⟨wR,wR,wR,wR,wR,wR,Weak.eq hv,trivial⟩ ⟨hO1 rfl,trivial⟩ ?_
        exact H.out
     ·have hkb : k = b.length := by omega
      have hV : comV a b i k = true := by rw [hia,hkb]; exact comV_nn a b
      refine al_eq (fun _ => ?_) (fun e => absurd (show (k : Int) = ((refOnes b).length : Int) by omega) e)
      refine ⟨none,?_⟩
      refine al_dec (fun e => absurd (show (i : Int) < ((refOnes a).length : Int) from e) (by omega)) (fun _ => ?_)
      refine ⟨none,?_⟩
      refine al_dec (fun e => absurd (show (k : Int) < ((refOnes b).length : Int) from e) (by omega)) (fun _ => ?_)
      refine ⟨none,?_⟩
      refine al_dec (fun e => absurd (show (i : Int) < ((refOnes a).length : Int) from e) (by omega)) (fun _ => ?_)
      have hv : FV.p (.bool true) = .p (.bool (comV a b i k)) := by rw [hV]
      refine cutR 198 (cmS a b i [(8,.p (.int .i64 k)),(9,.p (.bool (comV a b i k)))]) [(18,encSet row)] rfl ⟨wR,wR,wR,wR,wR,wR,Weak.eq hv,trivial⟩ ⟨hO1 rfl,trivial⟩ ?_
      exact H.out
   case rest =>
    refine ⟨_,hmul i (by omega),?_⟩
    refine ⟨_,hadd (i * (b.length + 1)) k (by have := hle i k (by omega) (by omega); omega) (by omega),?_⟩
    refine ⟨i * (b.length + 1) + k,(i * (b.length + 1) + k) * 1,rfl,rfl,by show (i * (b.length + 1) + k) * 1 + 1 ≤ (encSet row).length; rw [encSet_length]; omega,?_⟩
    refine ⟨_,_,_,encSet_split hhere,encSet_at hhere,_,encSet_set hhere,?_⟩
    exact ⟨_,hsubk,roundR ((k : Int) - 1,row.set (i * (b.length + 1) + k) (comV a b i k)) ⟨by show -1 ≤ (k : Int) - 1; omega,by show (k : Int) - 1 ≤ b.length; omega,by
     have := hT.put hi hk
     have e : (k : Int) - 1 + 1 = k := by omega
     show Tbl (comV a b) a.length b.length _ i ((k : Int) - 1 + 1)
     rw [e]
     exact this⟩ (by show ((k : Int) - 1 + 1).toNat < ((k : Int) + 1).toNat; omega) rfl ⟨wR,wR,wR,wR,wR,wR,trivial⟩ ⟨hO1 rfl,trivial⟩⟩
  ·have hlk : ¬ w ≥ 0 := hlk
   obtain rfl : w = -1 := by omega
   have hT : Tbl (comV a b) a.length b.length row i 0 := hT
   exact ⟨_,hsub,roundR ((i : Int) - 1,row) ⟨by show -1 ≤ (i : Int) - 1; omega,by show (i : Int) - 1 ≤ a.length; omega,hT.next⟩ (by show ((i : Int) - 1 + 1).toNat < ((i : Int) + 1).toNat; omega) rfl ⟨wR,wR,wR,wR,wR,trivial⟩ ⟨hO1 rfl,trivial⟩⟩
 ·have hlt : ¬ z ≥ 0 := hlt
  obtain rfl : z = -1 := by omega
  obtain ⟨l0,v0⟩ := hT.get (i' := 0) (k' := 0) (Nat.zero_le _) (Nat.zero_le _) (.inl (by omega))
  have l0' : 0 < row.length := by rw [hT.len]; exact hpos
  have v0' : row[0] = comR a b := by
   have e : row[0] = row[0 * (b.length + 1) + 0] := by congr 1; omega
   rw [e,v0]
   rfl
  refine ⟨0,0,rfl,rfl,by show 0 + 1 ≤ (encSet row).length; rw [encSet_length]; omega,_,_,_,encSet_split l0',encSet_at l0',?_⟩
  rw [v0']
  exact rfl
end Qv

end

section
open Go Go.Proofs Go.RowKit
namespace Qv
def ovW (a b : List Comp) (i k : Nat) : Bool := ovE comR (a.drop i) (b.drop k)
theorem ovW_nn (a b : List Comp) : ovW a b a.length b.length = true := by
 unfold ovW
 rw [List.drop_length,List.drop_length]
 exact ovE_nn _
theorem ovW_cn {a b : List Comp} {i : Nat} {c : Comp} (h : a[i]? = some c) : ovW a b i b.length = (c.deep && ovW a b (i + 1) b.length) := by
 unfold ovW
 rw [drop_at h,List.drop_length]
 exact ovE_cn _ _ _
theorem ovW_nc {a b : List Comp} {k : Nat} {d : Comp} (h : b[k]? = some d) : ovW a b a.length k = (d.deep && ovW a b a.length (k + 1)) := by
 unfold ovW
 rw [drop_at h,List.drop_length]
 exact ovE_nc _ _ _
theorem ovW_cc {a b : List Comp} {i k : Nat} {c d : Comp} (h : a[i]? = some c) (h2 : b[k]? = some d) :
 ovW a b i k = ((c.deep && (ovW a b (i + 1) k || ovW a b i (k + 1))) || (d.deep && (ovW a b i (k + 1) || ovW a b (i + 1) k)) || (!c.deep && !d.deep && ovW a b (i + 1) (k + 1) && comR c.ones d.ones)) := by
 unfold ovW
 rw [drop_at h,drop_at h2]
 exact ovE_cc _ _ _ _ _
theorem refC_get {l : List Comp} {i : Nat} {c : Comp} (h : l[i]? = some c) : (refComps l)[((i : Nat) : Int).toNat]? = some [.bool c.deep,.sl (refOnes c.ones)] := by
 simp [refComps,h,Comp.ref]
abbrev ovS2 (a b : List Comp) (z : Int) (more : List (Nat × FV)) : List (Nat × FV) :=
 (5,.p (.sl (refComps a))) :: (7,.p (.sl (refComps b))) :: (9,.p (.int .i64 ((b.length + 1 : Nat) : Int))) :: (10,.osl 38 4 1) :: (11,.p (.int .i64 z)) :: more
set_option maxRecDepth 100000 in
set_option maxHeartbeats 4000000 in
theorem overR_ok (g h : Bytes) (hg : g.length ≤ 2 ^ 29) (hh : h.length ≤ 2 ^ 29) : CallsTo C 130 [.str g,.str h] (fun r => r = .val (.bool (overR g h))) := by
 obtain ⟨ha,hao,-⟩ := parseF_tiny g
 obtain ⟨hb,hbo,-⟩ := parseF_tiny h
 refine callsTo_of_evO ⟨[],[],false,[],[],[]⟩ [20] Tryz.func130 rfl rfl rfl ?_
 refine ⟨_,(refGlob_ok g hg).opn,?_⟩
 rintro r ⟨out1,ok1,rfl,o1,p1⟩
 refine ⟨_,(refGlob_ok h hh).opn,?_⟩
 rintro r ⟨out2,ok2,rfl,o2,p2⟩
 unfold overR
 refine ⟨none,?_⟩
 cases ok1 with
 | false =>
   have e1 : ¬ (parseF g).2 = 0 := fun e => by have := o1.2 e; cases this
   refine al_not ?_
   rw [decide_eq_false e1]
   exact rfl
 | true =>
 have e1 : (parseF g).2 = 0 := o1.1 rfl
 have q1 := p1 rfl
 refine al_not ?_
 cases ok2 with
 | false =>
   have e2 : ¬ (parseF h).2 = 0 := fun e => by have := o2.2 e; cases this
   refine al_not ?_
   rw [decide_eq_false e2,Bool.and_false]
   exact rfl
 | true =>
 have e2 : (parseF h).2 = 0 := o2.1 rfl
 have q2 := p2 rfl
 refine al_not ?_
 rw [decide_eq_true e1,decide_eq_true e2,Bool.true_and,Bool.true_and]
 rw [← q1,← q2]
 rw [← q1] at ha hao
 rw [← q2] at hb hbo
 clear o1 o2 p1 p2 e1 e2 q1 q2
 generalize out1 = a at ha hao ⊢
 generalize out2 = b at hb hbo ⊢
 have hla : ((refComps a).length : Int) = (a.length : Int) := by simp [refComps]
 have hlb : ((refComps b).length : Int) = (b.length : Int) := by simp [refComps]
 have hN : (a.length + 1) * (b.length + 1) ≤ 2 ^ 42 := Nat.le_trans (Nat.mul_le_mul (show a.length + 1 ≤ 2 ^ 20 + 1 by omega) (show b.length + 1 ≤ 2 ^ 20 + 1 by omega)) (by decide)
 have hpos : 0 < (a.length + 1) * (b.length + 1) := Nat.mul_pos (by omega) (by omega)
 have hadd : ∀ x y : Nat,x ≤ 2 ^ 50 → y ≤ 2 ^ 50 → IntKind.i64.wrap ((x : Int) + (y : Int)) = ((x + y : Nat) : Int) := fun x y h1 h2 => by rw [wrap64 (by omega) (by omega)]; omega
 have hadd1 : ∀ x : Nat,x ≤ 2 ^ 50 → IntKind.i64.wrap ((x : Int) + 1) = ((x + 1 : Nat) : Int) := fun x h1 => by rw [wrap64 (by omega) (by omega)]; omega
 have hmul : ∀ x : Nat,x ≤ a.length + 1 → IntKind.i64.wrap ((x : Int) * ((b.length + 1 : Nat) : Int)) = ((x * (b.length + 1) : Nat) : Int) := fun x h1 => by
  have h2 : x * (b.length + 1) ≤ (a.length + 1) * (b.length + 1) := Nat.mul_le_mul_right _ h1
  rw [← Int.natCast_mul,wrap64 (by omega) (by omega)]
 have hle : ∀ x k : Nat,x ≤ a.length + 1 → k ≤ b.length + 1 → x * (b.length + 1) ≤ 2 ^ 42 ∧ x * (b.length + 1) + k ≤ 2 ^ 43 := fun x k h1 h2 => by
  have h2 : x * (b.length + 1) ≤ (a.length + 1) * (b.length + 1) := Nat.mul_le_mul_right _ h1
  omega
 have w1 : IntKind.i64.wrap (((refComps b).length : Int) + 1) = ((b.length + 1 : Nat) : Int) := by rw [hlb]; exact hadd1 _ (by omega)
 have w2 : IntKind.i64.wrap (((refComps a).length : Int) + 1) = ((a.length + 1 : Nat) : Int) := by rw [hla]; exact hadd1 _ (by omega)
 refine ⟨_,w1,?_⟩
 refine ⟨_,w2,?_⟩
 refine ⟨_,hmul (a.length + 1) (Nat.le_refl _),?_⟩
 refine ⟨(a.length + 1) * (b.length + 1),rfl,rfl,by omega,by omega,encSet (List.replicate ((a.length + 1) * (b.length + 1)) false),kill_row _ _,?_⟩
 refine loopR 220 (fun x : Int × List Bool => ovS2 a b x.1 []) (fun x => [(38,encSet x.2)]) (fun x => -1 ≤ x.1 ∧ x.1 ≤ a.length ∧ Tbl (ovW a b) a.length b.length x.2 x.1 ((b.length : Int) + 1)) (fun x => (x.1 + 1).toNat) ((a.length : Int),List.replicate ((a.length + 1) * (b.length + 1)) false)
  ⟨by omega,Int.le_refl _,by simp,fun i' k' hi hk hd => by omega⟩ rfl ⟨wR,wR,wR,wR,Weak.eq (by show FV.p (.int .i64 ((refComps a).length : Int)) = _; rw [hla]),trivial⟩ ⟨hO1 rfl,trivial⟩ ?_
 rintro ⟨z,row⟩ ⟨hz1,hz2,hT⟩
 have hz1 : -1 ≤ z := hz1
 have hz2 : z ≤ (a.length : Int) := hz2
 have hT : Tbl (ovW a b) a.length b.length row z ((b.length : Int) + 1) := hT
 refine al_dec (fun hge => ?_) (fun hlt => ?_)
 ·have hge : z ≥ 0 := hge
  obtain ⟨i,rfl⟩ : ∃ i : Nat,z = (i : Int) := ⟨z.toNat,by omega⟩
  have hi : i ≤ a.length := by omega
  have hsub : IntKind.i64.wrap ((i : Int) - 1) = (i : Int) - 1 := by rw [wrap64 (by omega) (by omega)]
  refine loopR 220 (fun x : Int × List Bool => ovS2 a b i [(12,.p (.int .i64 x.1))]) (fun x => [(38,encSet x.2)]) (fun x => -1 ≤ x.1 ∧ x.1 ≤ b.length ∧ Tbl (ovW a b) a.length b.length x.2 i (x.1 + 1)) (fun x => (x.1 + 1).toNat) ((b.length : Int),row)
   ⟨by omega,Int.le_refl _,hT⟩ rfl ⟨wR,wR,wR,wR,wR,Weak.eq (by show FV.p (.int .i64 ((refComps b).length : Int)) = _; rw [hlb]),trivial⟩ ⟨hO1 rfl,trivial⟩ ?_
  rintro ⟨w,row⟩ ⟨hw1,hw2,hT⟩
  have hw1 : -1 ≤ w := hw1
  have hw2 : w ≤ (b.length : Int) := hw2
  have hT : Tbl (ovW a b) a.length b.length row i (w + 1) := hT
  refine al_dec (fun hgk => ?_) (fun hlk => ?_)
  ·have hgk : w ≥ 0 := hgk
   obtain ⟨k,rfl⟩ : ∃ k : Nat,w = (k : Int) := ⟨w.toNat,by omega⟩
   have hk : k ≤ b.length := by omega
   have hsubk : IntKind.i64.wrap ((k : Int) - 1) = (k : Int) - 1 := by rw [wrap64 (by omega) (by omega)]
   have hhere : i * (b.length + 1) + k < row.length := by rw [hT.len]; exact tbl_lt hi hk
   refine share (T := ?T) (fun H => ?main) ?rest
   case main =>
    refine ⟨none,?_⟩
    rcases Nat.lt_or_ge i a.length with hia | hia
    ·obtain ⟨c,hc⟩ : ∃ c,a[i]? = some c := ⟨_,List.getElem?_eq_getElem hia⟩
     obtain ⟨l1,v1⟩ := hT.get (i' := i + 1) (k' := k) hia hk (.inl (by omega))
     refine al_eq (fun e => absurd (show (i : Int) = ((refComps a).length : Int) from e) (by omega)) (fun _ => ?_)
     refine ⟨none,?_⟩
     refine al_dec (fun _ => ?_) (fun e => absurd (show (i : Int) < ((refComps a).length : Int) by omega) e)
     rcases Nat.lt_or_ge k b.length with hkb | hkb
     ·obtain ⟨d,hd⟩ : ∃ d,b[k]? = some d := ⟨_,List.getElem?_eq_getElem hkb⟩
      obtain ⟨l2,v2⟩ := hT.get (i' := i) (k' := k + 1) hi hkb (.inr ⟨rfl,by omega⟩)
      obtain ⟨l3,v3⟩ := hT.get (i' := i + 1) (k' := k + 1) hia hkb (.inl (by omega))
      have hV := ovW_cc (a := a) (b := b) hc hd
      cases hcs : c.deep with
      | true =>
        cases hds : d.deep with
        | true =>
          refine ⟨by omega,_,refC_get hc,rfl,?_⟩
          rw [hcs]
          refine ⟨none,?_⟩
          refine ⟨_,hadd1 i (by omega),?_⟩
          refine ⟨_,hmul (i + 1) (by omega),?_⟩
          refine ⟨_,hadd ((i + 1) * (b.length + 1)) k (by have := hle (i + 1) k (by omega) (by omega); omega) (by omega),?_⟩
          refine ⟨(i + 1) * (b.length + 1) + k,((i + 1) * (b.length + 1) + k) * 1,rfl,rfl,by show ((i + 1) * (b.length + 1) + k) * 1 + 1 ≤ (encSet row).length; rw [encSet_length]; omega,_,_,_,encSet_split l1,encSet_at l1,?_⟩
          rw [v1]
          cases h1 : ovW a b (i + 1) k with
          | true =>
            refine ⟨none,?_⟩
            refine al_dec (fun _ => ?_) (fun e => absurd (show (k : Int) < ((refComps b).length : Int) by omega) e)
            refine ⟨by omega,_,refC_get hd,rfl,?_⟩
            rw [hds]
            refine ⟨none,?_⟩
            refine ⟨none,?_⟩
            refine al_dec (fun _ => ?_) (fun e => absurd (show (i : Int) < ((refComps a).length : Int) by omega) e)
            refine al_dec (fun _ => ?_) (fun e => absurd (show (k : Int) < ((refComps b).length : Int) by omega) e)
            refine ⟨by omega,_,refC_get hc,rfl,?_⟩
            rw [hcs]
            refine al_not ?_
            have hv : FV.p (.bool true) = .p (.bool (ovW a b i k)) := by rw [hV]; simp [hcs,hds,h1]
            refine cutR 220 (ovS2 a b i [(12,.p (.int .i64 k)),(13,.p (.bool (ovW a b i k)))]) [(38,encSet row)] rfl ⟨wR,wR,wR,wR,wR,wR,Weak.eq hv,trivial⟩ ⟨hO1 rfl,trivial⟩ ?_
            exact H.out
          | false =>
            refine al_dec (fun _ => ?_) (fun e => absurd (show (k : Int) < ((refComps b).length : Int) by omega) e)
            refine ⟨by omega,_,refC_get hd,rfl,?_⟩
            rw [hds]
            refine al_not ?_
            refine ⟨none,?_⟩
            refine al_dec (fun _ => ?_) (fun e => absurd (show (k : Int) < ((refComps b).length : Int) by omega) e)
            refine ⟨by omega,_,refC_get hd,rfl,?_⟩
            rw [hds]
            refine ⟨none,?_⟩
            refine ⟨_,hmul i (by omega),?_⟩
            refine ⟨_,hadd (i * (b.length + 1)) k (by have := hle i k (by omega) (by omega); omega) (by omega),?_⟩
            refine ⟨_,hadd1 (i * (b.length + 1) + k) (by have := hle i k (by omega) (by omega); omega),?_⟩
            refine ⟨i * (b.length + 1) + k + 1,(i * (b.length + 1) + k + 1) * 1,rfl,rfl,by show (i * (b.length + 1) + k + 1) * 1 + 1 ≤ (encSet row).length; rw [encSet_length]; omega,_,_,_,encSet_split l2,encSet_at l2,?_⟩
            rw [v2]
            cases h2 : ovW a b i (k + 1) with
            | true =>
              refine ⟨none,?_⟩
              refine al_dec (fun _ => ?_) (fun e => absurd (show (i : Int) < ((refComps a).length : Int) by omega) e)
              refine al_dec (fun _ => ?_) (fun e => absurd (show (k : Int) < ((refComps b).length : Int) by omega) e)
              refine ⟨by omega,_,refC_get hc,rfl,?_⟩
              rw [hcs]
              refine al_not ?_
              have hv : FV.p (.bool true) = .p (.bool (ovW a b i k)) := by rw [hV]; simp [hcs,hds,h1,h2]
              refine cutR 220 (ovS2 a b i [(12,.p (.int .i64 k)),(13,.p (.bool (ovW a b i k)))]) [(38,encSet row)] rfl ⟨wR,wR,wR,wR,wR,wR,Weak.eq hv,trivial⟩ ⟨hO1 rfl,trivial⟩ ?_
              exact H.out
            | false =>
              refine al_dec (fun _ => ?_) (fun e => absurd (show (i : Int) < ((refComps a).length : Int) by omega) e)
              refine ⟨by omega,_,refC_get hc,rfl,?_⟩
              rw [hcs]
              refine al_not ?_
              refine ⟨none,?_⟩
              refine al_dec (fun _ => ?_) (fun e => absurd (show (i : Int) < ((refComps a).length : Int) by omega) e)
              refine al_dec (fun _ => ?_) (fun e => absurd (show (k : Int) < ((refComps b).length : Int) by omega) e)
              refine ⟨by omega,_,refC_get hc,rfl,?_⟩
              rw [hcs]
              refine al_not ?_
              have hv : FV.p (.bool false) = .p (.bool (ovW a b i k)) := by rw [hV]; simp [hcs,hds,h1,h2]
              refine cutR 220 (ovS2 a b i [(12,.p (.int .i64 k)),(13,.p (.bool (ovW a b i k)))]) [(38,encSet row)] rfl ⟨wR,wR,wR,wR,wR,wR,Weak.eq hv,trivial⟩ ⟨hO1 rfl,trivial⟩ ?_
              exact H.out
        | false =>
          refine ⟨by omega,_,refC_get hc,rfl,?_⟩
          rw [hcs]
          refine ⟨none,?_⟩
          refine ⟨_,hadd1 i (by omega),?_⟩
          refine ⟨_,hmul (i + 1) (by omega),?_⟩
          refine ⟨_,hadd ((i + 1) * (b.length + 1)) k (by have := hle (i + 1) k (by omega) (by omega); omega) (by omega),?_⟩
          refine ⟨(i + 1) * (b.length + 1) + k,((i + 1) * (b.length + 1) + k) * 1,rfl,rfl,by show ((i + 1) * (b.length + 1) + k) * 1 + 1 ≤ (encSet row).length; rw [encSet_length]; omega,_,_,_,encSet_split l1,encSet_at l1,?_⟩
          rw [v1]
          cases h1 : ovW a b (i + 1) k with
          | true =>
            refine ⟨none,?_⟩
            refine al_dec (fun _ => ?_) (fun e => absurd (show (k : Int) < ((refComps b).length : Int) by omega) e)
            refine ⟨by omega,_,refC_get hd,rfl,?_⟩
            rw [hds]
            refine ⟨none,?_⟩
            refine al_dec (fun _ => ?_) (fun e => absurd (show (i : Int) < ((refComps a).length : Int) by omega) e)
            refine al_dec (fun _ => ?_) (fun e => absurd (show (k : Int) < ((refComps b).length : Int) by omega) e)
            refine ⟨by omega,_,refC_get hc,rfl,?_⟩
            rw [hcs]
            refine al_not ?_
            have hv : FV.p (.bool true) = .p (.bool (ovW a b i k)) := by rw [hV]; simp [hcs,hds,h1]
            refine cutR 220 (ovS2 a b i [(12,.p (.int .i64 k)),(13,.p (.bool (ovW a b i k)))]) [(38,encSet row)] rfl ⟨wR,wR,wR,wR,wR,wR,Weak.eq hv,trivial⟩ ⟨hO1 rfl,trivial⟩ ?_
            exact H.out
          | false =>
            refine al_dec (fun _ => ?_) (fun e => absurd (show (k : Int) < ((refComps b).length : Int) by omega) e)
            refine ⟨by omega,_,refC_get hd,rfl,?_⟩
            rw [hds]
            refine al_not ?_
            refine ⟨_,hmul i (by omega),?_⟩
            refine ⟨_,hadd (i * (b.length + 1)) k (by have := hle i k (by omega) (by omega); omega) (by omega),?_⟩
            refine ⟨_,hadd1 (i * (b.length + 1) + k) (by have := hle i k (by omega) (by omega); omega),?_⟩
            refine ⟨i * (b.length + 1) + k + 1,(i * (b.length + 1) + k + 1) * 1,rfl,rfl,by show (i * (b.length + 1) + k + 1) * 1 + 1 ≤ (encSet row).length; rw [encSet_length]; omega,_,_,_,encSet_split l2,encSet_at l2,?_⟩
            rw [v2]
            cases h2 : ovW a b i (k + 1) with
            | true =>
              refine ⟨none,?_⟩
              refine al_dec (fun _ => ?_) (fun e => absurd (show (k : Int) < ((refComps b).length : Int) by omega) e)
              refine ⟨by omega,_,refC_get hd,rfl,?_⟩
              rw [hds]
              refine ⟨none,?_⟩
              refine al_dec (fun _ => ?_) (fun e => absurd (show (i : Int) < ((refComps a).length : Int) by omega) e)
              refine al_dec (fun _ => ?_) (fun e => absurd (show (k : Int) < ((refComps b).length : Int) by omega) e)
              refine ⟨by omega,_,refC_get hc,rfl,?_⟩
              rw [hcs]
              refine al_not ?_
              have hv : FV.p (.bool true) = .p (.bool (ovW a b i k)) := by rw [hV]; simp [hcs,hds,h1,h2]
              refine cutR 220 (ovS2 a b i [(12,.p (.int .i64 k)),(13,.p (.bool (ovW a b i k)))]) [(38,encSet row)] rfl ⟨wR,wR,wR,wR,wR,wR,Weak.eq hv,trivial⟩ ⟨hO1 rfl,trivial⟩ ?_
              exact H.out
            | false =>
              refine ⟨none,?_⟩
              refine al_dec (fun _ => ?_) (fun e => absurd (show (k : Int) < ((refComps b).length : Int) by omega) e)
              refine ⟨by omega,_,refC_get hd,rfl,?_⟩
              rw [hds]
              refine ⟨none,?_⟩
              refine al_dec (fun _ => ?_) (fun e => absurd (show (i : Int) < ((refComps a).length : Int) by omega) e)
              refine al_dec (fun _ => ?_) (fun e => absurd (show (k : Int) < ((refComps b).length : Int) by omega) e)
              refine ⟨by omega,_,refC_get hc,rfl,?_⟩
              rw [hcs]
              refine al_not ?_
              have hv : FV.p (.bool false) = .p (.bool (ovW a b i k)) := by rw [hV]; simp [hcs,hds,h1,h2]
              refine cutR 220 (ovS2 a b i [(12,.p (.int .i64 k)),(13,.p (.bool (ovW a b i k)))]) [(38,encSet row)] rfl ⟨wR,wR,wR,wR,wR,wR,Weak.eq hv,trivial⟩ ⟨hO1 rfl,trivial⟩ ?_
              exact H.out
      | false =>
        cases hds : d.deep with
        | true =>
          refine ⟨by omega,_,refC_get hc,rfl,?_⟩
          rw [hcs]
          refine ⟨none,?_⟩
          refine al_dec (fun _ => ?_) (fun e => absurd (show (k : Int) < ((refComps b).length : Int) by omega) e)
          refine ⟨by omega,_,refC_get hd,rfl,?_⟩
          rw [hds]
          refine ⟨none,?_⟩
          refine ⟨_,hmul i (by omega),?_⟩
          refine ⟨_,hadd (i * (b.length + 1)) k (by have := hle i k (by omega) (by omega); omega) (by omega),?_⟩
          refine ⟨_,hadd1 (i * (b.length + 1) + k) (by have := hle i k (by omega) (by omega); omega),?_⟩
          refine ⟨i * (b.length + 1) + k + 1,(i * (b.length + 1) + k + 1) * 1,rfl,rfl,by show (i * (b.length + 1) + k + 1) * 1 + 1 ≤ (encSet row).length; rw [encSet_length]; omega,_,_,_,encSet_split l2,encSet_at l2,?_⟩
          rw [v2]
          cases h2 : ovW a b i (k + 1) with
          | true =>
            refine ⟨none,?_⟩
            refine al_dec (fun _ => ?_) (fun e => absurd (show (i : Int) < ((refComps a).length : Int) by omega) e)
            refine al_dec (fun _ => ?_) (fun e => absurd (show (k : Int) < ((refComps b).length : Int) by omega) e)
            refine ⟨by omega,_,refC_get hc,rfl,?_⟩
            rw [hcs]
            refine al_not ?_
            refine ⟨by omega,_,refC_get hd,rfl,?_⟩
            rw [hds]
            refine al_not ?_
            have hv : FV.p (.bool true) = .p (.bool (ovW a b i k)) := by rw [hV]; simp [hcs,hds,h2]
            refine cutR 220 (ovS2 a b i [(12,.p (.int .i64 k)),(13,.p (.bool (ovW a b i k)))]) [(38,encSet row)] rfl ⟨wR,wR,wR,wR,wR,wR,Weak.eq hv,trivial⟩ ⟨hO1 rfl,trivial⟩ ?_
            exact H.out
          | false =>
            refine al_dec (fun _ => ?_) (fun e => absurd (show (i : Int) < ((refComps a).length : Int) by omega) e)
            refine ⟨by omega,_,refC_get hc,rfl,?_⟩
            rw [hcs]
            refine al_not ?_
            refine ⟨_,hadd1 i (by omega),?_⟩
            refine ⟨_,hmul (i + 1) (by omega),?_⟩
            refine ⟨_,hadd ((i + 1) * (b.length + 1)) k (by have := hle (i + 1) k (by omega) (by omega); omega) (by omega),?_⟩
            refine ⟨(i + 1) * (b.length + 1) + k,((i + 1) * (b.length + 1) + k) * 1,rfl,rfl,by show ((i + 1) * (b.length + 1) + k) * 1 + 1 ≤ (encSet row).length; rw [encSet_length]; omega,_,_,_,encSet_split l1,encSet_at l1,?_⟩
            rw [v1]
            cases h1 : ovW a b (i + 1) k with
            | true =>
              refine ⟨none,?_⟩
              refine al_dec (fun _ => ?_) (fun e => absurd (show (i : Int) < ((refComps a).length : Int) by omega) e)
              refine al_dec (fun _ => ?_) (fun e => absurd (show (k : Int) < ((refComps b).length : Int) by omega) e)
              refine ⟨by omega,_,refC_get hc,rfl,?_⟩
              rw [hcs]
              refine al_not ?_
              refine ⟨by omega,_,refC_get hd,rfl,?_⟩
              rw [hds]
              refine al_not ?_
              have hv : FV.p (.bool true) = .p (.bool (ovW a b i k)) := by rw [hV]; simp [hcs,hds,h2,h1]
              refine cutR 220 (ovS2 a b i [(12,.p (.int .i64 k)),(13,.p (.bool (ovW a b i k)))]) [(38,encSet row)] rfl ⟨wR,wR,wR,wR,wR,wR,Weak.eq hv,trivial⟩ ⟨hO1 rfl,trivial⟩ ?_
              exact H.out
            | false =>
              refine ⟨none,?_⟩
              refine al_dec (fun _ => ?_) (fun e => absurd (show (i : Int) < ((refComps a).length : Int) by omega) e)
              refine al_dec (fun _ => ?_) (fun e => absurd (show (k : Int) < ((refComps b).length : Int) by omega) e)
              refine ⟨by omega,_,refC_get hc,rfl,?_⟩
              rw [hcs]
              refine al_not ?_
              refine ⟨by omega,_,refC_get hd,rfl,?_⟩
              rw [hds]
              refine al_not ?_
              have hv : FV.p (.bool false) = .p (.bool (ovW a b i k)) := by rw [hV]; simp [hcs,hds,h2,h1]
              refine cutR 220 (ovS2 a b i [(12,.p (.int .i64 k)),(13,.p (.bool (ovW a b i k)))]) [(38,encSet row)] rfl ⟨wR,wR,wR,wR,wR,wR,Weak.eq hv,trivial⟩ ⟨hO1 rfl,trivial⟩ ?_
              exact H.out
        | false =>
          refine ⟨by omega,_,refC_get hc,rfl,?_⟩
          rw [hcs]
          refine ⟨none,?_⟩
          refine al_dec (fun _ => ?_) (fun e => absurd (show (k : Int) < ((refComps b).length : Int) by omega) e)
          refine ⟨by omega,_,refC_get hd,rfl,?_⟩
          rw [hds]
          refine ⟨none,?_⟩
          refine al_dec (fun _ => ?_) (fun e => absurd (show (i : Int) < ((refComps a).length : Int) by omega) e)
          refine al_dec (fun _ => ?_) (fun e => absurd (show (k : Int) < ((refComps b).length : Int) by omega) e)
          refine ⟨by omega,_,refC_get hc,rfl,?_⟩
          rw [hcs]
          refine al_not ?_
          refine ⟨by omega,_,refC_get hd,rfl,?_⟩
          rw [hds]
          refine al_not ?_
          have hm := common_ref_ok c.ones d.ones (hao c (List.mem_of_getElem? hc)) (hbo d (List.mem_of_getElem? hd))
          refine lex2 27 (by kernel_rfl) ?_
          refine ⟨by omega,_,refC_get hc,rfl,?_⟩
          refine ⟨by omega,_,refC_get hd,rfl,?_⟩
          cases hmm : comR c.ones d.ones with
          | true =>
            rw [hmm] at hm
            refine ⟨_,hm.opn,?_⟩
            refine ⟨_,hadd1 i (by omega),?_⟩
            refine ⟨_,hmul (i + 1) (by omega),?_⟩
            refine ⟨_,hadd ((i + 1) * (b.length + 1)) k (by have := hle (i + 1) k (by omega) (by omega); omega) (by omega),?_⟩
            refine ⟨_,hadd1 ((i + 1) * (b.length + 1) + k) (by have := hle (i + 1) k (by omega) (by omega); omega),?_⟩
            refine ⟨(i + 1) * (b.length + 1) + k + 1,((i + 1) * (b.length + 1) + k + 1) * 1,rfl,rfl,by show ((i + 1) * (b.length + 1) + k + 1) * 1 + 1 ≤ (encSet row).length; rw [encSet_length]; omega,_,_,_,encSet_split l3,encSet_at l3,?_⟩
            rw [v3]
            cases h3 : ovW a b (i + 1) (k + 1) with
            | true =>
              have hv : FV.p (.bool true) = .p (.bool (ovW a b i k)) := by rw [hV]; simp [hcs,hds,hmm,h3]
              refine cutR 220 (ovS2 a b i [(12,.p (.int .i64 k)),(13,.p (.bool (ovW a b i k)))]) [(38,encSet row)] rfl ⟨wR,wR,wR,wR,wR,wR,Weak.eq hv,trivial⟩ ⟨hO1 rfl,trivial⟩ ?_
              exact H.out
            | false =>
              have hv : FV.p (.bool false) = .p (.bool (ovW a b i k)) := by rw [hV]; simp [hcs,hds,hmm,h3]
              refine cutR 220 (ovS2 a b i [(12,.p (.int .i64 k)),(13,.p (.bool (ovW a b i k)))]) [(38,encSet row)] rfl ⟨wR,wR,wR,wR,wR,wR,Weak.eq hv,trivial⟩ ⟨hO1 rfl,trivial⟩ ?_
              exact H.out
          | false =>
            rw [hmm] at hm
            refine ⟨_,hm.opn,?_⟩
            have hv : FV.p (.bool false) = .p (.bool (ovW a b i k)) := by rw [hV]; simp [hcs,hds,hmm]
            refine cutR 220 (ovS2 a b i [(12,.p (.int .i64 k)),(13,.p (.bool (ovW a b i k)))]) [(38,encSet row)] rfl ⟨wR,wR,wR,wR,wR,wR,Weak.eq hv,trivial⟩ ⟨hO1 rfl,trivial⟩ ?_
            exact H.out
     ·have hkb : k = b.length := by omega
      have hV : ovW a b i k = (c.deep && ovW a b (i + 1) k) := by rw [hkb]; exact ovW_cn hc
      cases hcs : c.deep with
      | true =>
        refine ⟨by omega,_,refC_get hc,rfl,?_⟩
        rw [hcs]
        refine ⟨none,?_⟩
        refine ⟨_,hadd1 i (by omega),?_⟩
        refine ⟨_,hmul (i + 1) (by omega),?_⟩
        refine ⟨_,hadd ((i + 1) * (b.length + 1)) k (by have := hle (i + 1) k (by omega) (by omega); omega) (by omega),?_⟩
        refine ⟨(i + 1) * (b.length + 1) + k,((i + 1) * (b.length + 1) + k) * 1,rfl,rfl,by show ((i + 1) * (b.length + 1) + k) * 1 + 1 ≤ (encSet row).length; rw [encSet_length]; omega,_,_,_,encSet_split l1,encSet_at l1,?_⟩
        rw [v1]
        cases h1 : ovW a b (i + 1) k with
        | true =>
          refine ⟨none,?_⟩
          refine al_dec (fun e => absurd (show (k : Int) < ((refComps b).length : Int) from e) (by omega)) (fun _ => ?_)
          refine ⟨none,?_⟩
          refine al_dec (fun _ => ?_) (fun e => absurd (show (i : Int) < ((refComps a).length : Int) by omega) e)
          refine al_dec (fun e => absurd (show (k : Int) < ((refComps b).length : Int) from e) (by omega)) (fun _ => ?_)
          have hv : FV.p (.bool true) = .p (.bool (ovW a b i k)) := by rw [hV]; simp [hcs,h1]
          refine cutR 220 (ovS2 a b i [(12,.p (.int .i64 k)),(13,.p (.bool (ovW a b i k)))]) [(38,encSet row)] rfl ⟨wR,wR,wR,wR,wR,wR,Weak.eq hv,trivial⟩ ⟨hO1 rfl,trivial⟩ ?_
          exact H.out
        | false =>
          refine al_dec (fun e => absurd (show (k : Int) < ((refComps b).length : Int) from e) (by omega)) (fun _ => ?_)
          refine ⟨none,?_⟩
          refine al_dec (fun e => absurd (show (k : Int) < ((refComps b).length : Int) from e) (by omega)) (fun _ => ?_)
          refine ⟨none,?_⟩
          refine al_dec (fun _ => ?_) (fun e => absurd (show (i : Int) < ((refComps a).length : Int) by omega) e)
          refine al_dec (fun e => absurd (show (k : Int) < ((refComps b).length : Int) from e) (by omega)) (fun _ => ?_)
          have hv : FV.p (.bool false) = .p (.bool (ovW a b i k)) := by rw [hV]; simp [hcs,h1]
          refine cutR 220 (ovS2 a b i [(12,.p (.int .i64 k)),(13,.p (.bool (ovW a b i k)))]) [(38,encSet row)] rfl ⟨wR,wR,wR,wR,wR,wR,Weak.eq hv,trivial⟩ ⟨hO1 rfl,trivial⟩ ?_
          exact H.out
      | false =>
        refine ⟨by omega,_,refC_get hc,rfl,?_⟩
        rw [hcs]
        refine ⟨none,?_⟩
        refine al_dec (fun e => absurd (show (k : Int) < ((refComps b).length : Int) from e) (by omega)) (fun _ => ?_)
        refine ⟨none,?_⟩
        refine al_dec (fun _ => ?_) (fun e => absurd (show (i : Int) < ((refComps a).length : Int) by omega) e)
        refine al_dec (fun e => absurd (show (k : Int) < ((refComps b).length : Int) from e) (by omega)) (fun _ => ?_)
        have hv : FV.p (.bool false) = .p (.bool (ovW a b i k)) := by rw [hV]; simp [hcs]
        refine cutR 220 (ovS2 a b i [(12,.p (.int .i64 k)),(13,.p (.bool (ovW a b i k)))]) [(38,encSet row)] rfl ⟨wR,wR,wR,wR,wR,wR,Weak.eq hv,trivial⟩ ⟨hO1 rfl,trivial⟩ ?_
        exact H.out
    ·have hia : i = a.length := by omega
     refine al_eq (fun _ => ?_) (fun e => absurd (show (i : Int) = ((refComps a).length : Int) by omega) e)
     rcases Nat.lt_or_ge k b.length with hkb | hkb
     ·obtain ⟨d,hd⟩ : ∃ d,b[k]? = some d := ⟨_,List.getElem?_eq_getElem hkb⟩
      obtain ⟨l2,v2⟩ := hT.get (i' := i) (k' := k + 1) hi hkb (.inr ⟨rfl,by omega⟩)
      have hV : ovW a b i k = (d.deep && ovW a b i (k + 1)) := by rw [hia]; exact ovW_nc hd
      refine al_eq (fun e => absurd (show (k : Int) = ((refComps b).length : Int) from e) (by omega)) (fun _ => ?_)
      refine ⟨none,?_⟩
      refine al_dec (fun e => absurd (show (i : Int) < ((refComps a).length : Int) from e) (by omega)) (fun _ => ?_)
      refine ⟨none,?_⟩
      refine al_dec (fun _ => ?_) (fun e => absurd (show (k : Int) < ((refComps b).length : Int) by omega) e)
      cases hds : d.deep with
      | true =>
        refine ⟨by omega,_,refC_get hd,rfl,?_⟩
        rw [hds]
        refine ⟨none,?_⟩
        refine ⟨_,hmul i (by omega),?_⟩
        refine ⟨_,hadd (i * (b.length + 1)) k (by have := hle i k (by omega) (by omega); omega) (by omega),?_⟩
        refine ⟨_,hadd1 (i * (b.length + 1) + k) (by have := hle i k (by omega) (by omega); omega),?_⟩
        refine ⟨i * (b.length + 1) + k + 1,(i * (b.length + 1) + k + 1) * 1,rfl,rfl,by show (i * (b.length + 1) + k + 1) * 1 + 1 ≤ (encSet row).length; rw [encSet_length]; omega,_,_,_,encSet_split l2,encSet_at l2,?_⟩
        rw [v2]
        cases h2 : ovW a b i (k + 1) with
        | true =>
          refine ⟨none,?_⟩
          refine al_dec (fun e => absurd (show (i : Int) < ((refComps a).length : Int) from e) (by omega)) (fun _ => ?_)
          have hv : FV.p (.bool true) = .p (.bool (ovW a b i k)) := by rw [hV]; simp [hds,h2]
          refine cutR 220 (ovS2 a b i [(12,.p (.int .i64 k)),(13,.p (.bool (ovW a b i k)))]) [(38,encSet row)] rfl ⟨wR,wR,wR,wR,wR,wR,Weak.eq hv,trivial⟩ ⟨hO1 rfl,trivial⟩ ?_
          exact H.out
        | false =>
          refine al_dec (fun e => absurd (show (i : Int) < ((refComps a).length : Int) from e) (by omega)) (fun _ => ?_)
          refine ⟨none,?_⟩
          refine al_dec (fun e => absurd (show (i : Int) < ((refComps a).length : Int) from e) (by omega)) (fun _ => ?_)
          have hv : FV.p (.bool false) = .p (.bool (ovW a b i k)) := by rw [hV]; simp [hds,h2]
          refine cutR 220 (ovS2 a b i [(12,.p (.int .i64 k)),(13,.p (.bool (ovW a b i k)))]) [(38,encSet row)] rfl ⟨wR,wR,wR,wR,wR,wR,Weak.eq hv,trivial⟩ ⟨hO1 rfl,trivial⟩ ?_
          exact H.out
      | false =>
        refine ⟨by omega,_,refC_get hd,rfl,?_⟩
        rw [hds]
        refine ⟨none,?_⟩
        refine al_dec (fun e => absurd (show (i : Int) < ((refComps a).length : Int) from e) (by omega)) (fun _ => ?_)
        have hv : FV.p (.bool false) = .p (.bool (ovW a b i k)) := by rw [hV]; simp [hds]
        refine cutR 220 (ovS2 a b i [(12,.p (.int .i64 k)),(13,.p (.bool (ovW a b i k)))]) [(38,encSet row)] rfl ⟨wR,wR,wR,wR,wR,wR,Weak.eq hv,trivial⟩ ⟨hO1 rfl,trivial⟩ ?_
        exact H.out
     ·have hkb : k = b.length := by omega
      have hV : ovW a b i k = true := by rw [hia,hkb]; exact ovW_nn a b
      refine al_eq (fun _ => ?_) (fun e => absurd (show (k : Int) = ((refComps b).length : Int) by omega) e)
      refine ⟨none,?_⟩
      refine al_dec (fun e => absurd (show (i : Int) < ((refComps a).length : Int) from e) (by omega)) (fun _ => ?_)
      refine ⟨none,?_⟩
      refine al_dec (fun e => absurd (show (k : Int) < ((refComps b).length : Int) from e) (by omega)) (fun _ => ?_)
      refine ⟨none,?_⟩
      refine al_dec (fun e => absurd (show (i : Int) < ((refComps a).length : Int) from e) (by omega)) (fun _ => ?_)
      have hv : FV.p (.bool true) = .p (.bool (ovW a b i k)) := by rw [hV]
      refine cutR 220 (ovS2 a b i [(12,.p (.int .i64 k)),(13,.p (.bool (ovW a b i k)))]) [(38,encSet row)] rfl ⟨wR,wR,wR,wR,wR,wR,Weak.eq hv,trivial⟩ ⟨hO1 rfl,trivial⟩ ?_
      exact H.out
   case rest =>
    refine ⟨_,hmul i (by omega),?_⟩
    refine ⟨_,hadd (i * (b.length + 1)) k (by have := hle i k (by omega) (by omega); omega) (by omega),?_⟩
    refine ⟨i * (b.length + 1) + k,(i * (b.length + 1) + k) * 1,rfl,rfl,by show (i * (b.length + 1) + k) * 1 + 1 ≤ (encSet row).length; rw [encSet_length]; omega,?_⟩
    refine ⟨_,_,_,encSet_split hhere,encSet_at hhere,_,encSet_set hhere,?_⟩
    exact ⟨_,hsubk,roundR ((k : Int) - 1,row.set (i * (b.length + 1) + k) (ovW a b i k)) ⟨by show -1 ≤ (k : Int) - 1; omega,by show (k : Int) - 1 ≤ b.length; omega,by
     have := hT.put hi hk
     have e : (k : Int) - 1 + 1 = k := by omega
     show Tbl (ovW a b) a.length b.length _ i ((k : Int) - 1 + 1)
     rw [e]
     exact this⟩ (by show ((k : Int) - 1 + 1).toNat < ((k : Int) + 1).toNat; omega) rfl ⟨wR,wR,wR,wR,wR,wR,trivial⟩ ⟨hO1 rfl,trivial⟩⟩
  ·have hlk : ¬ w ≥ 0 := hlk
   obtain rfl : w = -1 := by omega
   have hT : Tbl (ovW a b) a.length b.length row i 0 := hT
   exact ⟨_,hsub,roundR ((i : Int) - 1,row) ⟨by show -1 ≤ (i : Int) - 1; omega,by show (i : Int) - 1 ≤ a.length; omega,hT.next⟩ (by show ((i : Int) - 1 + 1).toNat < ((i : Int) + 1).toNat; omega) rfl ⟨wR,wR,wR,wR,wR,trivial⟩ ⟨hO1 rfl,trivial⟩⟩
 ·have hlt : ¬ z ≥ 0 := hlt
  obtain rfl : z = -1 := by omega
  obtain ⟨l0,v0⟩ := hT.get (i' := 0) (k' := 0) (Nat.zero_le _) (Nat.zero_le _) (.inl (by omega))
  have l0' : 0 < row.length := by rw [hT.len]; exact hpos
  have v0' : row[0] = ovE comR a b := by
   have e : row[0] = row[0 * (b.length + 1) + 0] := by congr 1; omega
   rw [e,v0]
   rfl
  refine ⟨0,0,rfl,rfl,by show 0 + 1 ≤ (encSet row).length; rw [encSet_length]; omega,_,_,_,encSet_split l0',encSet_at l0',?_⟩
  rw [v0']
  exact rfl
end Qv

end

section
open Go Go.Proofs Go.RowKit
namespace Qv
theorem equalR_ok (a : Qy) : szQ a → ∀ b,szQ b → CallsTo C 128 [.agg (encQy a),.agg (encQy b)] (fun r => r = .val (.bool (sameQ a b))) := by
 refine Qy.ind (P := fun a => szQ a → ∀ b,szQ b → CallsTo C 128 [.agg (encQy a),.agg (encQy b)] (fun r => r = .val (.bool (sameQ a b)))) ?_ a
 intro k t n l ih hs b hsb
 obtain ⟨k',t',n',l'⟩ := b
 obtain ⟨s1,s2,s3⟩ := szQ_mk.1 hs
 obtain ⟨u1,u2,u3⟩ := szQ_mk.1 hsb
 have out : ∀ x,sameQ (.mk k t n l) (.mk k' t' n' l') = x → (fun r => r = Ret.val (.bool (sameQ (.mk k t n l) (.mk k' t' n' l')))) (.val (.bool x)) := fun x h => by rw [h]
 rw [sameQ_mk] at out ⊢
 refine cTo' Tryz.func128 rfl rfl rfl ?_
 refine ⟨none,?_⟩
 refine al_ne (fun h => ?_) (fun h1 => ?_)
 ·exact out false (by rw [decide_eq_false h]; rfl)
 refine al_nes (fun h => ?_) (fun h2 => ?_)
 ·exact out false (by rw [decide_eq_false (show ¬ t = t' from h),Bool.false_and,Bool.and_false])
 refine al_ne (fun h => ?_) (fun h3 => ?_)
 ·exact out false (by rw [decide_eq_false (show ¬ n = n' from h),Bool.false_and,Bool.and_false,Bool.and_false])
 refine al_ne (fun h => ?_) (fun h4 => ?_)
 ·exact out false (by rw [sameQL_len (fun e => h (by rw [encQyL_len,encQyL_len,e])),Bool.and_false,Bool.and_false,Bool.and_false])
 have h4 : l.length = l'.length := by
  rw [encQyL_len,encQyL_len] at h4
  omega
 have h1 : k = k' := h1
 have h2 : t = t' := h2
 have h3 : n = n' := h3
 rw [decide_eq_true h1,decide_eq_true h2,decide_eq_true h3,Bool.true_and,Bool.true_and,Bool.true_and]
 clear out
 generalize hX : sameQL l l' = X
 refine loopR 53 (fun i : Nat => [(2,.ptr 2 0),(3,.ptr 3 0),(5,.p (.int .i64 i))]) (fun _ => [(2,mapP [.int .i64 k,.str t,.int .i64 n,.sl (encQyL l)]),(3,mapP [.int .i64 k',.str t',.int .i64 n',.sl (encQyL l')])])
  (fun i => i ≤ l.length ∧ sameQL (l.drop i) (l'.drop i) = X) (fun i => l.length - i) 0 ⟨Nat.zero_le _,hX⟩ rfl ⟨wR,wR,wR,trivial⟩ ⟨hO1 rfl,hO1 rfl,trivial⟩ ?_
 clear hX
 rintro i ⟨hi,hX⟩
 refine al_ltq (fun hlt => ?_) (fun hge => ?_)
 ·obtain ⟨a1,a2,a3,a4,hq⟩ := get_q hlt
  obtain ⟨b1,b2,b3,b4,hq'⟩ := get_q (l := l') (i := i) (by omega)
  have hmem := List.mem_of_getElem? hq
  have hmem' := List.mem_of_getElem? hq'
  rw [drop_at hq,drop_at hq'] at hX
  have hX : (sameQ (.mk a1 a2 a3 a4) (.mk b1 b2 b3 b4) && sameQL (l.drop (i + 1)) (l'.drop (i + 1))) = X := hX
  have hw5 : IntKind.i64.wrap ((i : Int) + 1) = ((i + 1 : Nat) : Int) := by rw [wrap64 (by omega) (by omega)]; omega
  have hc := ih _ hmem (s3 _ hmem) _ (u3 _ hmem')
  refine lex2 12 (by kernel_rfl) ?_
  refine ⟨by omega,_,idx_q hq,rfl,?_⟩
  refine ⟨by omega,_,idx_q hq',rfl,?_⟩
  cases hb : sameQ (.mk a1 a2 a3 a4) (.mk b1 b2 b3 b4) with
  | true =>
    rw [hb] at hc hX
    refine ⟨_,hc,?_⟩
    refine al_not ?_
    exact ⟨_,hw5,roundR (i + 1) ⟨hlt,hX⟩ (by show l.length - (i + 1) < l.length - i; omega) rfl ⟨wR,wR,wR,trivial⟩ ⟨hO1 rfl,hO1 rfl,trivial⟩⟩
  | false =>
    rw [hb] at hc hX
    refine ⟨_,hc,?_⟩
    refine al_not ?_
    have hX : false = X := hX
    subst hX
    exact rfl
 ·have hge : i = l.length := by omega
  subst hge
  rw [List.drop_length,List.drop_eq_nil_of_le (by omega)] at hX
  have hX : true = X := hX
  subst hX
  exact rfl
theorem negatesR_ok {G : Bytes → Bool} (a b : Qy) (hv : allE G a = 0) (hs : szQ a) (hsb : szQ b) : CallsTo C 77 [.agg (encQy a),.agg (encQy b)] (fun r => r = .val (.bool (negatesF a b))) := by
 obtain ⟨k,t,n,l⟩ := a
 obtain ⟨k',t',n',l'⟩ := b
 have e : negatesF (.mk k t n l) (.mk k' t' n' l') = (decide (k = 9) && sameQ ((Qy.mk k t n l).nth 0) (.mk k' t' n' l')) := rfl
 rw [e]
 refine cTo' Tryz.func77 rfl rfl rfl ?_
 refine lex2 12 (by kernel_rfl) ?_
 refine al_eq (fun h => ?_) (fun h => ?_)
 ·have h : k = 9 := h
  rw [decide_eq_true h,Bool.true_and]
  rcases valid_cases hv with ⟨_,h8,_⟩ | ⟨_,rfl,rfl,x,rfl,_⟩ | ⟨hk,_⟩
  ·omega
  ·obtain ⟨k1,t1,n1,l1⟩ := x
   refine ⟨by decide,_,rfl,rfl,?_⟩
   refine ⟨_,equalR_ok (.mk k1 t1 n1 l1) ((szQ_mk.1 hs).2.2 _ (by simp)) (.mk k' t' n' l') hsb,?_⟩
   exact rfl
  ·omega
 ·have h : ¬ k = 9 := h
  rw [decide_eq_false h]
  exact rfl
theorem beginsR_ok (s t : Bytes) : CallsTo C 129 [.str s,.str t] (fun r => r = .val (.bool (beginsF s t))) := by
 refine cTo' Tryz.func129 rfl rfl rfl ?_
 refine ⟨none,?_⟩
 refine al_dec (fun h => ?_) (fun h => ?_)
 ·have h : (s.length : Int) ≥ (t.length : Int) := h
  refine ⟨t.length,rfl,Nat.zero_le _,by omega,s.take t.length,rfl,?_⟩
  refine al_eq (fun e => ?_) (fun e => ?_)
  ·have e : s.take t.length = t := e
   have : beginsF s t = true := by
    unfold beginsF
    rw [List.isPrefixOf_iff_prefix,← e]
    exact List.take_prefix _ _
   rw [this]; exact rfl
  ·have e : ¬ s.take t.length = t := e
   have : beginsF s t = false := by
    cases hb : beginsF s t with
    | false => rfl
    | true =>
      unfold beginsF at hb
      rw [List.isPrefixOf_iff_prefix] at hb
      exact absurd (List.prefix_iff_eq_take.1 hb).symm e
   rw [this]; exact rfl
 ·have h : ¬ (s.length : Int) ≥ (t.length : Int) := h
  have : beginsF s t = false := by
   cases hb : beginsF s t with
   | false => rfl
   | true =>
     unfold beginsF at hb
     rw [List.isPrefixOf_iff_prefix] at hb
     have := hb.length_le
     omega
  rw [this]; exact rfl
theorem leavesR_ok {G : Bytes → Bool} (a b : Qy) (hva : allE G a = 0) (hvb : allE G b = 0) : CallsTo C 78 [.agg (encQy a),.agg (encQy b)] (fun r => r = .val (.bool (leavesF overF a b))) := by
 obtain ⟨k,t,n,l⟩ := a
 obtain ⟨k',t',n',l'⟩ := b
 obtain ⟨u1,u2,u3⟩ := valid_bounds hva
 obtain ⟨w1,w2,w3⟩ := valid_bounds hvb
 have hL : leavesF overF (.mk k t n l) (.mk k' t' n' l') = if k = 3 ∧ k' = 3 then !decide (t = t') else if k = 8 ∧ k' = 8 then !(beginsF t t' || beginsF t' t) else if k = 4 ∧ k' = 4 then !overF t t' else if k = 6 ∧ k' = 7 then decide (n ≤ n' + 1) else if k = 7 ∧ k' = 6 then decide (n' ≤ n + 1) else false := rfl
 rw [hL]
 have hw1 : IntKind.i64.wrap (n' + 1) = n' + 1 := by rw [wrap64 (by omega) (by omega)]
 have hw2 : IntKind.i64.wrap (n + 1) = n + 1 := by rw [wrap64 (by omega) (by omega)]
 refine cTo' Tryz.func78 rfl rfl rfl ?_
 refine ⟨some (fun vs => vs = [.p (.bool (decide (k = 6 ∧ k' = 7)))]),keepA (.p (.bool (decide (k = 6 ∧ k' = 7)))) 12 rfl ?_ ?_⟩
 ·refine al_eq (fun h => ?_) (fun h => ?_)
  ·refine al_eq (fun h' => ?_) (fun h' => ?_)
   ·exact fin_b true (decide_eq_true ⟨h,h'⟩)
   ·exact fin_b false (decide_eq_false fun e => h' e.2)
  ·exact fin_b false (decide_eq_false fun e => h e.1)
 cases q6 : decide (k = 6 ∧ k' = 7) with
 | true =>
   have q6 := of_decide_eq_true q6
   rw [if_neg (by omega),if_neg (by omega),if_neg (by omega),if_pos q6]
   refine ⟨_,hw1,?_⟩
   exact ⟨fun x hx => by subst hx; rfl⟩
 | false =>
 have q6 := of_decide_eq_false q6
 refine ⟨some (fun vs => vs = [.p (.bool (decide (k = 7 ∧ k' = 6)))]),keepA (.p (.bool (decide (k = 7 ∧ k' = 6)))) 26 rfl ?_ ?_⟩
 ·refine al_eq (fun h => ?_) (fun h => ?_)
  ·refine al_eq (fun h' => ?_) (fun h' => ?_)
   ·exact fin_b true (decide_eq_true ⟨h,h'⟩)
   ·exact fin_b false (decide_eq_false fun e => h' e.2)
  ·exact fin_b false (decide_eq_false fun e => h e.1)
 cases q7 : decide (k = 7 ∧ k' = 6) with
 | true =>
   have q7 := of_decide_eq_true q7
   rw [if_neg (by omega),if_neg (by omega),if_neg (by omega),if_neg (by omega),if_pos q7]
   refine ⟨_,hw2,?_⟩
   exact ⟨fun x hx => by subst hx; rfl⟩
 | false =>
 have q7 := of_decide_eq_false q7
 refine al_ne (fun h => ?_) (fun h => ?_)
 ·have h : ¬ k = k' := h
  rw [if_neg (by omega),if_neg (by omega),if_neg (by omega),if_neg q6,if_neg q7]
  exact rfl
 have h : k = k' := h
 refine al_eq (fun h3 => ?_) (fun h3 => ?_)
 ·have h3 : k = 3 := h3
  rw [if_pos ⟨h3,by omega⟩]
  refine al_nes (fun e => ?_) (fun e => ?_)
  ·rw [decide_eq_false (show ¬ t = t' from e)]; exact rfl
  ·rw [decide_eq_true (show t = t' from e)]; exact rfl
 have h3 : ¬ k = 3 := h3
 rw [if_neg (by omega)]
 refine al_eq (fun h8 => ?_) (fun h8 => ?_)
 ·have h8 : k = 8 := h8
  rw [if_pos ⟨h8,by omega⟩]
  have b1 := beginsR_ok t t'
  have b2 := beginsR_ok t' t
  refine ⟨none,?_⟩
  cases hb : beginsF t t' with
  | true =>
    rw [hb] at b1
    refine ⟨_,b1,fun r hr => ?_⟩
    subst hr
    refine al_not ?_
    exact rfl
  | false =>
    rw [hb] at b1
    refine ⟨_,b1,fun r hr => ?_⟩
    subst hr
    refine al_not ?_
    refine ⟨_,b2,fun r hr => ?_⟩
    subst hr
    refine al_not ?_
    exact rfl
 have h8 : ¬ k = 8 := h8
 rw [if_neg (by omega)]
 refine al_eq (fun h4 => ?_) (fun h4 => ?_)
 ·have h4 : k = 4 := h4
  rw [if_pos ⟨h4,by omega⟩]
  refine ⟨_,overR_ok t t' (by omega) (by omega),fun r hr => ?_⟩
  subst hr
  refine al_not ?_
  rw [over_eq]
  exact rfl
 have h4 : ¬ k = 4 := h4
 rw [if_neg (by omega),if_neg q6,if_neg q7]
 exact rfl
theorem disjR_ok : ∀ (N : Nat) (a b : Qy),allE globB a = 0 → allE globB b = 0 → szQ a → szQ b → a.parts + b.parts ≤ N → CallsTo C 47 [.agg (encQy a),.agg (encQy b)] (fun r => r = .val (.bool (disjN overF N a b))) := by
 intro N
 induction N with
 | zero => intro a b _ _ _ _ h; have := parts_pos a; omega
 | succ N ih =>
   intro a b hva hvb hsa hsb hN
   obtain ⟨k,t,n,l⟩ := a
   obtain ⟨k',t',n',l'⟩ := b
   have out : ∀ x,disjN overF (N + 1) (.mk k t n l) (.mk k' t' n' l') = x → (fun r => r = Ret.val (.bool (disjN overF (N + 1) (.mk k t n l) (.mk k' t' n' l')))) (.val (.bool x)) := fun x h => by rw [h]
   have n1 := negatesR_ok (.mk k t n l) (.mk k' t' n' l') hva hsa hsb
   have n2 := negatesR_ok (.mk k' t' n' l') (.mk k t n l) hvb hsb hsa
   refine cTo' Tryz.func47 rfl rfl rfl ?_
   refine ⟨some (fun vs => vs = [(.p (.bool (decide (k = 2) || (decide (k' = 2) || (negatesF (.mk k t n l) (.mk k' t' n' l') || negatesF (.mk k' t' n' l') (.mk k t n l))))))]),keepA (.p (.bool (decide (k = 2) || (decide (k' = 2) || (negatesF (.mk k t n l) (.mk k' t' n' l') || negatesF (.mk k' t' n' l') (.mk k t n l)))))) 22 rfl ?_ ?_⟩
   ·refine al_eq (fun h => ?_) (fun h => ?_)
    ·have h : k = 2 := h
     rw [decide_eq_true h]
     exact rfl
    have h : ¬ k = 2 := h
    rw [decide_eq_false h]
    refine al_eq (fun h => ?_) (fun h => ?_)
    ·have h : k' = 2 := h
     rw [decide_eq_true h]
     exact rfl
    have h : ¬ k' = 2 := h
    rw [decide_eq_false h]
    cases hb : negatesF (.mk k t n l) (.mk k' t' n' l') with
    | true =>
      rw [hb] at n1
      exact ⟨_,n1,rfl⟩
    | false =>
      rw [hb] at n1
      exact ⟨_,n1,_,n2,rfl⟩
   generalize hc : (decide (k = 2) || (decide (k' = 2) || (negatesF (.mk k t n l) (.mk k' t' n' l') || negatesF (.mk k' t' n' l') (.mk k t n l)))) = c
   cases c with
   | true => exact out true (by rw [disjN_succ]; exact if_pos hc)
   | false =>
   have hD : disjN overF (N + 1) (.mk k t n l) (.mk k' t' n' l') =
    if k = 11 then disjN overF N ((Qy.mk k t n l).nth 0) (.mk k' t' n' l') && disjN overF N ((Qy.mk k t n l).nth 1) (.mk k' t' n' l')
    else if k' = 11 then disjN overF N (.mk k t n l) ((Qy.mk k' t' n' l').nth 0) && disjN overF N (.mk k t n l) ((Qy.mk k' t' n' l').nth 1)
    else if k = 10 then disjN overF N ((Qy.mk k t n l).nth 0) (.mk k' t' n' l') || disjN overF N ((Qy.mk k t n l).nth 1) (.mk k' t' n' l')
    else if k' = 10 then disjN overF N (.mk k t n l) ((Qy.mk k' t' n' l').nth 0) || disjN overF N (.mk k t n l) ((Qy.mk k' t' n' l').nth 1)
    else leavesF overF (.mk k t n l) (.mk k' t' n' l') := by
    rw [disjN_succ]
    exact if_neg (by show ¬ (decide (k = 2) || (decide (k' = 2) || (negatesF (.mk k t n l) (.mk k' t' n' l') || negatesF (.mk k' t' n' l') (.mk k t n l)))) = true; rw [hc]; simp)
   rw [hD] at out ⊢
   clear n1 n2 hc
   refine al_eq (fun h11 => ?_) (fun h11 => ?_)
   ·have h11 : k = 11 := h11
    obtain ⟨k1,t1,m1,l1,k2,t2,m2,l2,rfl,va,vb,sa,sb,pa,pb⟩ := two_of hva hsa (.inr h11)
    have c1 := ih (.mk k1 t1 m1 l1) (.mk k' t' n' l') va hvb sa hsb (by omega)
    have c2 := ih (.mk k2 t2 m2 l2) (.mk k' t' n' l') vb hvb sb hsb (by omega)
    rw [if_pos h11] at out ⊢
    have e : (disjN overF N ((Qy.mk k t n [.mk k1 t1 m1 l1,.mk k2 t2 m2 l2]).nth 0) (.mk k' t' n' l') && disjN overF N ((Qy.mk k t n [.mk k1 t1 m1 l1,.mk k2 t2 m2 l2]).nth 1) (.mk k' t' n' l')) = (disjN overF N (.mk k1 t1 m1 l1) (.mk k' t' n' l') && disjN overF N (.mk k2 t2 m2 l2) (.mk k' t' n' l')) := rfl
    rw [e]
    refine lex2 15 (by kernel_rfl) ?_
    refine ⟨by decide,_,rfl,rfl,?_⟩
    cases hb : disjN overF N (.mk k1 t1 m1 l1) (.mk k' t' n' l') with
    | true =>
      rw [hb] at c1
      refine ⟨_,c1,?_⟩
      refine ⟨by decide,_,rfl,rfl,?_⟩
      refine ⟨_,c2,?_⟩
      exact rfl
    | false =>
      rw [hb] at c1
      refine ⟨_,c1,?_⟩
      exact rfl
   have h11 : ¬ k = 11 := h11
   rw [if_neg h11] at out ⊢
   refine al_eq (fun g11 => ?_) (fun g11 => ?_)
   ·have g11 : k' = 11 := g11
    obtain ⟨k1,t1,m1,l1,k2,t2,m2,l2,rfl,va,vb,sa,sb,pa,pb⟩ := two_of hvb hsb (.inr g11)
    have c1 := ih (.mk k t n l) (.mk k1 t1 m1 l1) hva va hsa sa (by omega)
    have c2 := ih (.mk k t n l) (.mk k2 t2 m2 l2) hva vb hsa sb (by omega)
    rw [if_pos g11] at out ⊢
    have e : (disjN overF N (.mk k t n l) ((Qy.mk k' t' n' [.mk k1 t1 m1 l1,.mk k2 t2 m2 l2]).nth 0) && disjN overF N (.mk k t n l) ((Qy.mk k' t' n' [.mk k1 t1 m1 l1,.mk k2 t2 m2 l2]).nth 1)) = (disjN overF N (.mk k t n l) (.mk k1 t1 m1 l1) && disjN overF N (.mk k t n l) (.mk k2 t2 m2 l2)) := rfl
    rw [e]
    refine lex2 15 (by kernel_rfl) ?_
    refine ⟨by decide,_,rfl,rfl,?_⟩
    cases hb : disjN overF N (.mk k t n l) (.mk k1 t1 m1 l1) with
    | true =>
      rw [hb] at c1
      refine ⟨_,c1,?_⟩
      refine ⟨by decide,_,rfl,rfl,?_⟩
      refine ⟨_,c2,?_⟩
      exact rfl
    | false =>
      rw [hb] at c1
      refine ⟨_,c1,?_⟩
      exact rfl
   have g11 : ¬ k' = 11 := g11
   rw [if_neg g11] at out ⊢
   refine al_eq (fun h10 => ?_) (fun h10 => ?_)
   ·have h10 : k = 10 := h10
    obtain ⟨k1,t1,m1,l1,k2,t2,m2,l2,rfl,va,vb,sa,sb,pa,pb⟩ := two_of hva hsa (.inl h10)
    have c1 := ih (.mk k1 t1 m1 l1) (.mk k' t' n' l') va hvb sa hsb (by omega)
    have c2 := ih (.mk k2 t2 m2 l2) (.mk k' t' n' l') vb hvb sb hsb (by omega)
    rw [if_pos h10] at out ⊢
    have e : (disjN overF N ((Qy.mk k t n [.mk k1 t1 m1 l1,.mk k2 t2 m2 l2]).nth 0) (.mk k' t' n' l') || disjN overF N ((Qy.mk k t n [.mk k1 t1 m1 l1,.mk k2 t2 m2 l2]).nth 1) (.mk k' t' n' l')) = (disjN overF N (.mk k1 t1 m1 l1) (.mk k' t' n' l') || disjN overF N (.mk k2 t2 m2 l2) (.mk k' t' n' l')) := rfl
    rw [e]
    refine lex2 15 (by kernel_rfl) ?_
    refine ⟨by decide,_,rfl,rfl,?_⟩
    cases hb : disjN overF N (.mk k1 t1 m1 l1) (.mk k' t' n' l') with
    | false =>
      rw [hb] at c1
      refine ⟨_,c1,?_⟩
      refine ⟨by decide,_,rfl,rfl,?_⟩
      refine ⟨_,c2,?_⟩
      exact rfl
    | true =>
      rw [hb] at c1
      refine ⟨_,c1,?_⟩
      exact rfl
   have h10 : ¬ k = 10 := h10
   rw [if_neg h10] at out ⊢
   refine al_eq (fun g10 => ?_) (fun g10 => ?_)
   ·have g10 : k' = 10 := g10
    obtain ⟨k1,t1,m1,l1,k2,t2,m2,l2,rfl,va,vb,sa,sb,pa,pb⟩ := two_of hvb hsb (.inl g10)
    have c1 := ih (.mk k t n l) (.mk k1 t1 m1 l1) hva va hsa sa (by omega)
    have c2 := ih (.mk k t n l) (.mk k2 t2 m2 l2) hva vb hsa sb (by omega)
    rw [if_pos g10] at out ⊢
    have e : (disjN overF N (.mk k t n l) ((Qy.mk k' t' n' [.mk k1 t1 m1 l1,.mk k2 t2 m2 l2]).nth 0) || disjN overF N (.mk k t n l) ((Qy.mk k' t' n' [.mk k1 t1 m1 l1,.mk k2 t2 m2 l2]).nth 1)) = (disjN overF N (.mk k t n l) (.mk k1 t1 m1 l1) || disjN overF N (.mk k t n l) (.mk k2 t2 m2 l2)) := rfl
    rw [e]
    refine lex2 15 (by kernel_rfl) ?_
    refine ⟨by decide,_,rfl,rfl,?_⟩
    cases hb : disjN overF N (.mk k t n l) (.mk k1 t1 m1 l1) with
    | false =>
      rw [hb] at c1
      refine ⟨_,c1,?_⟩
      refine ⟨by decide,_,rfl,rfl,?_⟩
      refine ⟨_,c2,?_⟩
      exact rfl
    | true =>
      rw [hb] at c1
      refine ⟨_,c1,?_⟩
      exact rfl
   have g10 : ¬ k' = 10 := g10
   rw [if_neg g10] at out ⊢
   refine ⟨_,leavesR_ok (.mk k t n l) (.mk k' t' n' l') hva hvb,fun r hr => ?_⟩
   subst hr
   exact rfl
theorem disjointR_ok (a b : Qy) (hva : allE globB a = 0) (hvb : allE globB b = 0) (hsa : szQ a) (hsb : szQ b) : CallsTo C 47 [.agg (encQy a),.agg (encQy b)] (fun r => r = .val (.bool (disjF overF a b))) :=
 disjR_ok _ a b hva hvb hsa hsb (Nat.le_refl _)
end Qv

end
