/- Several texts in one: Queries in plain terms: the trees, their sizes, what Check says and what follows. No condition. -/
import Derived.Test.YtpoefbbfhebakaaGreatDoorCv4
set_option linter.unusedVariables false
set_option linter.unusedSimpArgs false

section
open Go Go.RowKit
namespace Qv
inductive Qy where
 | mk (kind : Int) (text : Bytes) (num : Int) (sub : List Qy)
def Qy.kind : Qy → Int | .mk k _ _ _ => k
def Qy.text : Qy → Bytes | .mk _ t _ _ => t
def Qy.num : Qy → Int | .mk _ _ n _ => n
def Qy.sub : Qy → List Qy | .mk _ _ _ l => l
theorem Qy.ind {P : Qy → Prop} (h : ∀ k t n l,(∀ x,x ∈ l → P x) → P (.mk k t n l)) (q : Qy) : P q :=
 Qy.rec (motive_1 := P) (motive_2 := fun l => ∀ x,x ∈ l → P x) (fun k t n l ih => h k t n l ih) (fun x hx => by cases hx) (fun q l hq hl x hx => by
  rcases List.mem_cons.1 hx with rfl | hx
  ·exact hq
  ·exact hl x hx) q
mutual
def encQy : Qy → List AV
 | .mk k t n l => [.int .i64 k,.str t,.int .i64 n,.sl (encQyL l)]
def encQyL : List Qy → List (List AV)
 | [] => []
 | q :: l => encQy q :: encQyL l
end
theorem encQyL_map : ∀ l,encQyL l = l.map encQy
 | [] => rfl
 | q :: l => by show encQy q :: encQyL l = _; rw [encQyL_map l]; rfl
mutual
def Qy.parts : Qy → Nat
 | .mk _ _ _ l => partsL l + 1
def partsL : List Qy → Nat
 | [] => 0
 | q :: l => q.parts + partsL l
end
mutual
def Qy.depth : Qy → Nat
 | .mk _ _ _ l => depthL l + 1
def depthL : List Qy → Nat
 | [] => 0
 | q :: l => max q.depth (depthL l)
end
mutual
def countF : Qy → Nat → Nat → Nat
 | .mk _ _ _ l,lim,d => if lim = 0 ∨ d = 0 then lim + 1 else countL l 1 lim d
def countL : List Qy → Nat → Nat → Nat → Nat
 | [],n,_,_ => n
 | q :: l,n,lim,d => if n ≤ lim then countL l (n + countF q (lim - n) (d - 1)) lim d else n
end
theorem parts_pos (q : Qy) : 0 < q.parts := by cases q; show 0 < _ + 1; omega
theorem depth_pos (q : Qy) : 0 < q.depth := by cases q; show 0 < _ + 1; omega
def fitsQ (q : Qy) (lim d : Nat) : Prop := q.parts ≤ lim ∧ q.depth ≤ d
theorem count_spec (q : Qy) : ∀ lim d,(fitsQ q lim d → countF q lim d = q.parts) ∧ (¬ fitsQ q lim d → countF q lim d = lim + 1) := by
 refine Qy.ind (P := fun q => ∀ lim d,(fitsQ q lim d → countF q lim d = q.parts) ∧ (¬ fitsQ q lim d → countF q lim d = lim + 1)) ?_ q
 intro k t n l ih lim d
 have key : ∀ (l : List Qy),(∀ x,x ∈ l → ∀ lim d,(fitsQ x lim d → countF x lim d = x.parts) ∧ (¬ fitsQ x lim d → countF x lim d = lim + 1)) → ∀ n,n ≤ lim →
  ((n + partsL l ≤ lim ∧ depthL l ≤ d - 1) → countL l n lim d = n + partsL l) ∧ (¬ (n + partsL l ≤ lim ∧ depthL l ≤ d - 1) → countL l n lim d = lim + 1) := by
  intro l
  induction l with
  | nil =>
    intro _ n hn
    refine ⟨fun _ => by simp [countL,partsL],fun h => absurd ⟨by simpa [partsL] using hn,by simp [depthL]⟩ h⟩
  | cons q l ihl =>
    intro hx n hn
    have hq := hx q List.mem_cons_self (lim - n) (d - 1)
    have hpp := parts_pos q
    unfold countL
    rw [if_pos hn]
    by_cases hf : fitsQ q (lim - n) (d - 1)
    ·rw [hq.1 hf]
     obtain ⟨f1,f2⟩ := hf
     have := ihl (fun x h => hx x (List.mem_cons_of_mem _ h)) (n + q.parts) (by omega)
     have e : n + q.parts + partsL l = n + partsL (q :: l) := by show _ = n + (q.parts + partsL l); omega
     have e2 : depthL (q :: l) ≤ d - 1 ↔ depthL l ≤ d - 1 := by
      show max q.depth (depthL l) ≤ d - 1 ↔ _
      rw [Nat.max_le]
      exact ⟨fun h => h.2,fun h => ⟨f2,h⟩⟩
     rw [e,← e2] at this
     exact this
    ·rw [hq.2 hf]
     have hno : ¬ (n + partsL (q :: l) ≤ lim ∧ depthL (q :: l) ≤ d - 1) := fun ⟨h1,h2⟩ => hf ⟨by
      have : n + (q.parts + partsL l) ≤ lim := h1
      omega,by
      have : max q.depth (depthL l) ≤ d - 1 := h2
      exact (Nat.max_le.1 this).1⟩
     refine ⟨fun h => absurd h hno,fun _ => ?_⟩
     have e : n + (lim - n + 1) = lim + 1 := by omega
     rw [e]
     cases l with
     | nil => rfl
     | cons x l =>
       unfold countL
       rw [if_neg (by omega)]
 unfold countF
 by_cases h0 : lim = 0 ∨ d = 0
 ·rw [if_pos h0]
  have hno : ¬ fitsQ (.mk k t n l) lim d := fun ⟨h1,h2⟩ => by
   have := parts_pos (.mk k t n l)
   have := depth_pos (.mk k t n l)
   omega
  exact ⟨fun h => absurd h hno,fun _ => rfl⟩
 ·rw [if_neg h0]
  have := key l ih 1 (by omega)
  have e : fitsQ (.mk k t n l) lim d ↔ (1 + partsL l ≤ lim ∧ depthL l ≤ d - 1) := by
   unfold fitsQ
   show partsL l + 1 ≤ lim ∧ depthL l + 1 ≤ d ↔ _
   omega
  rw [e]
  have e2 : (Qy.mk k t n l).parts = 1 + partsL l := by show partsL l + 1 = _; omega
  rw [e2]
  exact this
theorem count_le (q : Qy) (lim d : Nat) : countF q lim d ≤ lim ↔ fitsQ q lim d := by
 have h := count_spec q lim d
 by_cases hf : fitsQ q lim d
 ·rw [h.1 hf]; exact ⟨fun _ => hf,fun _ => hf.1⟩
 ·rw [h.2 hf]; exact ⟨fun h => absurd h (by omega),fun h => absurd h hf⟩
end Qv

end

section
open Go Go.RowKit
namespace Qv
mutual
def sameQ : Qy → Qy → Bool
 | .mk k t n l,.mk k' t' n' l' => decide (k = k') && (decide (t = t') && (decide (n = n') && sameQL l l'))
def sameQL : List Qy → List Qy → Bool
 | [],[] => true
 | a :: l,b :: m => sameQ a b && sameQL l m
 | [],_ :: _ => false
 | _ :: _,[] => false
end
theorem sameQ_iff (a : Qy) : ∀ b,sameQ a b = true ↔ a = b := by
 refine Qy.ind (P := fun a => ∀ b,sameQ a b = true ↔ a = b) ?_ a
 intro k t n l ih b
 obtain ⟨k',t',n',l'⟩ := b
 have key : ∀ (l : List Qy),(∀ x,x ∈ l → ∀ b,sameQ x b = true ↔ x = b) → ∀ m,sameQL l m = true ↔ l = m := by
  intro l
  induction l with
  | nil =>
    intro _ m
    cases m with
    | nil => simp [sameQL]
    | cons b m => simp [sameQL]
  | cons a l ihl =>
    intro hx m
    cases m with
    | nil => simp [sameQL]
    | cons b m =>
      unfold sameQL
      rw [Bool.and_eq_true,hx a List.mem_cons_self,ihl (fun x h => hx x (List.mem_cons_of_mem _ h)),List.cons.injEq]
 unfold sameQ
 simp only [Bool.and_eq_true,decide_eq_true_eq,key l ih,Qy.mk.injEq]
theorem sameQ_refl (a : Qy) : sameQ a a = true := (sameQ_iff a a).2 rfl
end Qv

end

section
open Go Go.RowKit
namespace Qv
def opsN (k : Int) : Nat := if k = 9 ∨ k = 12 ∨ k = 13 then 1 else if k = 10 ∨ k = 11 then 2 else 0
def wordedF (k : Int) : Bool := decide (3 ≤ k ∧ k ≤ 5) || decide (k = 8)
def numberedF (k : Int) : Bool := decide (k = 6) || decide (k = 7)
def hexB (c : UInt8) : Bool := (decide (48 ≤ c.toNat) && decide (c.toNat ≤ 57)) || (decide (97 ≤ c.toNat) && decide (c.toNat ≤ 102))
def hexF (s : Bytes) : Bool := decide (1 ≤ s.length) && (decide (s.length ≤ 64) && s.all hexB)
def partF (G : Bytes → Bool) (k : Int) (t : Bytes) (n : Int) (m : Nat) : Int :=
 if k < 1 ∨ 13 < k then 8
 else if (t ≠ [] ∧ wordedF k = false) ∨ (n ≠ 0 ∧ numberedF k = false) ∨ m ≠ opsN k then 1
 else if 200 < t.length then 4
 else if (k = 4 ∨ k = 5) ∧ G t = false then 3
 else if k = 8 ∧ hexF t = false then 3
 else if n < 0 ∨ 1099511627776 < n then 2
 else 0
mutual
def allE (G : Bytes → Bool) : Qy → Int
 | .mk k t n l => if partF G k t n l.length = 0 then allEL G l else partF G k t n l.length
def allEL (G : Bytes → Bool) : List Qy → Int
 | [] => 0
 | q :: l => if allE G q = 0 then allEL G l else allE G q
end
instance (q : Qy) (lim d : Nat) : Decidable (fitsQ q lim d) := inferInstanceAs (Decidable (_ ∧ _))
def checkQ (G : Bytes → Bool) (q : Qy) : Int := if fitsQ q 200 12 then allE G q else 4
theorem allEL_zero {G : Bytes → Bool} : ∀ {l : List Qy},allEL G l = 0 ↔ ∀ x,x ∈ l → allE G x = 0
 | [] => by simp [allEL]
 | q :: l => by
   unfold allEL
   split
   ·rename_i h
    rw [allEL_zero]
    simp [h]
   ·rename_i h
    simp [h]
theorem allE_zero {G : Bytes → Bool} {k : Int} {t : Bytes} {n : Int} {l : List Qy} : allE G (.mk k t n l) = 0 ↔ partF G k t n l.length = 0 ∧ ∀ x,x ∈ l → allE G x = 0 := by
 have e : allE G (.mk k t n l) = if partF G k t n l.length = 0 then allEL G l else partF G k t n l.length := rfl
 rw [e]
 split
 ·rename_i h
  rw [allEL_zero]
  simp [h]
 ·rename_i h
  simp [h]
theorem part_len {G : Bytes → Bool} {k : Int} {t : Bytes} {n : Int} {m : Nat} (h : partF G k t n m = 0) : m = opsN k ∧ 1 ≤ k ∧ k ≤ 13 ∧ (9 ≤ k → t = [] ∧ n = 0) := by
 unfold partF at h
 split at h
 ·cases h
 ·rename_i h1
  split at h
  ·cases h
  ·rename_i h2
   refine ⟨by
    apply Classical.byContradiction
    intro hm
    exact h2 (.inr (.inr hm)),by omega,by omega,fun h9 => ?_⟩
   have w : wordedF k = false := by simp [wordedF]; omega
   have u : numberedF k = false := by simp [numberedF]; omega
   constructor
   ·apply Classical.byContradiction
    intro ht
    exact h2 (.inl ⟨ht,w⟩)
   ·apply Classical.byContradiction
    intro hn
    exact h2 (.inr (.inl ⟨hn,u⟩))
end Qv

end

section
open Go Go.RowKit
namespace Qv
theorem opsN_one {k : Int} (h : k = 9 ∨ k = 12 ∨ k = 13) : opsN k = 1 := if_pos h
theorem opsN_two {k : Int} (h : k = 10 ∨ k = 11) : opsN k = 2 := by
 unfold opsN
 rw [if_neg (by omega),if_pos h]
end Qv

end

section
open Go Go.RowKit
namespace Qv
end Qv

end

section
open Go Go.RowKit
namespace Qv
def zeroQ : Qy := .mk 0 [] 0 []
def Qy.nth (q : Qy) (i : Nat) : Qy := (q.sub[i]?).getD zeroQ
def negatesF (a b : Qy) : Bool := decide (a.kind = 9) && sameQ (a.nth 0) b
def beginsF (s t : Bytes) : Bool := t.isPrefixOf s
def leavesF (O : Bytes → Bytes → Bool) (a b : Qy) : Bool :=
 if a.kind = 3 ∧ b.kind = 3 then !decide (a.text = b.text)
 else if a.kind = 8 ∧ b.kind = 8 then !(beginsF a.text b.text || beginsF b.text a.text)
 else if a.kind = 4 ∧ b.kind = 4 then !O a.text b.text
 else if a.kind = 6 ∧ b.kind = 7 then decide (a.num ≤ b.num + 1)
 else if a.kind = 7 ∧ b.kind = 6 then decide (b.num ≤ a.num + 1)
 else false
def disjN (O : Bytes → Bytes → Bool) : Nat → Qy → Qy → Bool
 | 0,_,_ => false
 | n + 1,a,b =>
   if (decide (a.kind = 2) || (decide (b.kind = 2) || (negatesF a b || negatesF b a))) = true then true
   else if a.kind = 11 then disjN O n (a.nth 0) b && disjN O n (a.nth 1) b
   else if b.kind = 11 then disjN O n a (b.nth 0) && disjN O n a (b.nth 1)
   else if a.kind = 10 then disjN O n (a.nth 0) b || disjN O n (a.nth 1) b
   else if b.kind = 10 then disjN O n a (b.nth 0) || disjN O n a (b.nth 1)
   else leavesF O a b
def disjF (O : Bytes → Bytes → Bool) (a b : Qy) : Bool := disjN O (a.parts + b.parts) a b
def eitherF (O : Bytes → Bytes → Bool) (a b : Qy) : Bool := disjF O a b || disjF O b a
end Qv

end

section
open Go Go.RowKit
namespace Qv
def constQ (k : Int) : Qy := .mk k [] 0 []
def hasF (q : Qy) (k : Int) (x : Qy) : Bool := decide (q.kind = k) && (sameQ (q.nth 0) x || sameQ (q.nth 1) x)
def idsF (a b : Qy) : Bool := decide (a.kind = 8) && (decide (b.kind = 8) && (beginsF a.text b.text || beginsF b.text a.text))
def andF (O : Bytes → Bytes → Bool) (q a b : Qy) : Qy :=
 if a.kind = 1 then b
 else if b.kind = 1 then a
 else if sameQ a b = true then a
 else if a.kind = 6 ∧ b.kind = 6 then (if a.num ≤ b.num then a else b)
 else if a.kind = 7 ∧ b.kind = 7 then (if b.num ≤ a.num then a else b)
 else if idsF a b = true then (if b.text.length ≤ a.text.length then a else b)
 else if eitherF O a b = true then constQ 2
 else if hasF a 11 b = true then b
 else if hasF b 11 a = true then a
 else q
def orF (q a b : Qy) : Qy :=
 if a.kind = 2 then b
 else if b.kind = 2 then a
 else if (decide (a.kind = 1) || (decide (b.kind = 1) || (negatesF a b || negatesF b a))) = true then constQ 1
 else if sameQ a b = true then a
 else if a.kind = 6 ∧ b.kind = 6 then (if b.num ≤ a.num then a else b)
 else if a.kind = 7 ∧ b.kind = 7 then (if a.num ≤ b.num then a else b)
 else if idsF a b = true then (if a.text.length ≤ b.text.length then a else b)
 else if hasF a 10 b = true then b
 else if hasF b 10 a = true then a
 else q
def notF (q a : Qy) : Qy :=
 if a.kind = 1 then constQ 2
 else if a.kind = 2 then constQ 1
 else if a.kind = 9 then a.nth 0
 else q
def closedF (q a : Qy) : Qy := if a.kind = 1 ∨ a.kind = 2 ∨ a.kind = q.kind then a else q
def stepQ (O : Bytes → Bytes → Bool) (q : Qy) : Qy :=
 if q.kind = 9 then notF q (q.nth 0)
 else if q.kind = 10 then andF O q (q.nth 0) (q.nth 1)
 else if q.kind = 11 then orF q (q.nth 0) (q.nth 1)
 else if q.kind = 12 ∨ q.kind = 13 then closedF q (q.nth 0)
 else q
def weightF (k : Int) : Nat := if k = 8 then 2 else if k = 3 ∨ k = 6 ∨ k = 7 then 3 else if k = 4 then 5 else if k = 5 then 20 else if k = 12 ∨ k = 13 then 10 else 1
mutual
def costF : Qy → Nat
 | .mk k _ _ l => costL l + weightF k
def costL : List Qy → Nat
 | [] => 0
 | q :: l => costF q + costL l
end
inductive From (q : Qy) : Qy → Prop
 | self : From q q
 | elem (a : Qy) : a ∈ q.sub → From q a
 | deep (a b : Qy) : a ∈ q.sub → b ∈ a.sub → From q b
 | all : q.sub ≠ [] → From q (constQ 1)
 | none : q.sub ≠ [] → From q (constQ 2)
end Qv

end

section
open Go Go.RowKit
namespace Qv
inductive Stable (O : Bytes → Bytes → Bool) : Qy → Prop
 | mk (k : Int) (t : Bytes) (n : Int) (l : List Qy) : (∀ x,x ∈ l → Stable O x) → stepQ O (.mk k t n l) = .mk k t n l → Stable O (.mk k t n l)
theorem Stable.sub {O : Bytes → Bytes → Bool} {q : Qy} (h : Stable O q) : ∀ x,x ∈ q.sub → Stable O x := by
 cases h with
 | mk k t n l h1 h2 => exact h1
structure Below (q r : Qy) : Prop where
 parts : r.parts ≤ q.parts
 depth : r.depth ≤ q.depth
 cost : costF r ≤ costF q
end Qv

end
