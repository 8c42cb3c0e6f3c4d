/- Several texts in one: Queries in plain terms: the trees, their sizes, what Check says and what follows. No condition. -/
import Derived.Test.YtpoefbbfhebakaaGreatDoorFv4
set_option linter.unusedVariables false
set_option linter.unusedSimpArgs false

section
open Go Go.RowKit
namespace Qv
inductive Qy where
 | mk (kind : Int) (text : Bytes) (num : Int) (sub : List Qy)
def Qy.kind : Qy → Int | .mk k _ _ _ => k
def Qy.text : Qy → Bytes | .mk _ t _ _ => t
def Qy.num : Qy → Int | .mk _ _ n _ => n
def Qy.sub : Qy → List Qy | .mk _ _ _ l => l
theorem Qy.eta (q : Qy) : q = .mk q.kind q.text q.num q.sub := by cases q; rfl
theorem Qy.ind {P : Qy → Prop} (h : ∀ k t n l,(∀ x,x ∈ l → P x) → P (.mk k t n l)) (q : Qy) : P q :=
 Qy.rec (motive_1 := P) (motive_2 := fun l => ∀ x,x ∈ l → P x) (fun k t n l ih => h k t n l ih) (fun x hx => by cases hx) (fun q l hq hl x hx => by
  rcases List.mem_cons.1 hx with rfl | hx
  ·exact hq
  ·exact hl x hx) q
mutual
def encQy : Qy → List AV
 | .mk k t n l => [.int .i64 k,.str t,.int .i64 n,.sl (encQyL l)]
def encQyL : List Qy → List (List AV)
 | [] => []
 | q :: l => encQy q :: encQyL l
end
theorem encQyL_map : ∀ l,encQyL l = l.map encQy
 | [] => rfl
 | q :: l => by show encQy q :: encQyL l = _; rw [encQyL_map l]; rfl
mutual
def Qy.parts : Qy → Nat
 | .mk _ _ _ l => partsL l + 1
def partsL : List Qy → Nat
 | [] => 0
 | q :: l => q.parts + partsL l
end
mutual
def Qy.depth : Qy → Nat
 | .mk _ _ _ l => depthL l + 1
def depthL : List Qy → Nat
 | [] => 0
 | q :: l => max q.depth (depthL l)
end
mutual
def countF : Qy → Nat → Nat → Nat
 | .mk _ _ _ l,lim,d => if lim = 0 ∨ d = 0 then lim + 1 else countL l 1 lim d
def countL : List Qy → Nat → Nat → Nat → Nat
 | [],n,_,_ => n
 | q :: l,n,lim,d => if n ≤ lim then countL l (n + countF q (lim - n) (d - 1)) lim d else n
end
theorem parts_pos (q : Qy) : 0 < q.parts := by cases q; show 0 < _ + 1; omega
theorem depth_pos (q : Qy) : 0 < q.depth := by cases q; show 0 < _ + 1; omega
def fitsQ (q : Qy) (lim d : Nat) : Prop := q.parts ≤ lim ∧ q.depth ≤ d
theorem count_spec (q : Qy) : ∀ lim d,(fitsQ q lim d → countF q lim d = q.parts) ∧ (¬ fitsQ q lim d → countF q lim d = lim + 1) := by
 refine Qy.ind (P := fun q => ∀ lim d,(fitsQ q lim d → countF q lim d = q.parts) ∧ (¬ fitsQ q lim d → countF q lim d = lim + 1)) ?_ q
 intro k t n l ih lim d
 have key : ∀ (l : List Qy),(∀ x,x ∈ l → ∀ lim d,(fitsQ x lim d → countF x lim d = x.parts) ∧ (¬ fitsQ x lim d → countF x lim d = lim + 1)) → ∀ n,n ≤ lim →
  ((n + partsL l ≤ lim ∧ depthL l ≤ d - 1) → countL l n lim d = n + partsL l) ∧ (¬ (n + partsL l ≤ lim ∧ depthL l ≤ d - 1) → countL l n lim d = lim + 1) := by
  intro l
  induction l with
  | nil =>
    intro _ n hn
    refine ⟨fun _ => by simp [countL,partsL],fun h => absurd ⟨by simpa [partsL] using hn,by simp [depthL]⟩ h⟩
  | cons q l ihl =>
    intro hx n hn
    have hq := hx q List.mem_cons_self (lim - n) (d - 1)
    have hpp := parts_pos q
    unfold countL
    rw [if_pos hn]
    by_cases hf : fitsQ q (lim - n) (d - 1)
    ·rw [hq.1 hf]
     obtain ⟨f1,f2⟩ := hf
     have := ihl (fun x h => hx x (List.mem_cons_of_mem _ h)) (n + q.parts) (by omega)
     have e : n + q.parts + partsL l = n + partsL (q :: l) := by show _ = n + (q.parts + partsL l); omega
     have e2 : depthL (q :: l) ≤ d - 1 ↔ depthL l ≤ d - 1 := by
      show max q.depth (depthL l) ≤ d - 1 ↔ _
      rw [Nat.max_le]
      exact ⟨fun h => h.2,fun h => ⟨f2,h⟩⟩
     rw [e,← e2] at this
     exact this
    ·rw [hq.2 hf]
     have hno : ¬ (n + partsL (q :: l) ≤ lim ∧ depthL (q :: l) ≤ d - 1) := fun ⟨h1,h2⟩ => hf ⟨by
      have : n + (q.parts + partsL l) ≤ lim := h1
      omega,by
      have : max q.depth (depthL l) ≤ d - 1 := h2
      exact (Nat.max_le.1 this).1⟩
     refine ⟨fun h => absurd h hno,fun _ => ?_⟩
     have e : n + (lim - n + 1) = lim + 1 := by omega
     rw [e]
     cases l with
     | nil => rfl
     | cons x l =>
       unfold countL
       rw [if_neg (by omega)]
 unfold countF
 by_cases h0 : lim = 0 ∨ d = 0
 ·rw [if_pos h0]
  have hno : ¬ fitsQ (.mk k t n l) lim d := fun ⟨h1,h2⟩ => by
   have := parts_pos (.mk k t n l)
   have := depth_pos (.mk k t n l)
   omega
  exact ⟨fun h => absurd h hno,fun _ => rfl⟩
 ·rw [if_neg h0]
  have := key l ih 1 (by omega)
  have e : fitsQ (.mk k t n l) lim d ↔ (1 + partsL l ≤ lim ∧ depthL l ≤ d - 1) := by
   unfold fitsQ
   show partsL l + 1 ≤ lim ∧ depthL l + 1 ≤ d ↔ _
   omega
  rw [e]
  have e2 : (Qy.mk k t n l).parts = 1 + partsL l := by show partsL l + 1 = _; omega
  rw [e2]
  exact this
theorem count_le (q : Qy) (lim d : Nat) : countF q lim d ≤ lim ↔ fitsQ q lim d := by
 have h := count_spec q lim d
 by_cases hf : fitsQ q lim d
 ·rw [h.1 hf]; exact ⟨fun _ => hf,fun _ => hf.1⟩
 ·rw [h.2 hf]; exact ⟨fun h => absurd h (by omega),fun h => absurd h hf⟩
end Qv

end

section
open Go Go.RowKit
namespace Qv
mutual
def sameQ : Qy → Qy → Bool
 | .mk k t n l,.mk k' t' n' l' => decide (k = k') && (decide (t = t') && (decide (n = n') && sameQL l l'))
def sameQL : List Qy → List Qy → Bool
 | [],[] => true
 | a :: l,b :: m => sameQ a b && sameQL l m
 | [],_ :: _ => false
 | _ :: _,[] => false
end
theorem sameQ_iff (a : Qy) : ∀ b,sameQ a b = true ↔ a = b := by
 refine Qy.ind (P := fun a => ∀ b,sameQ a b = true ↔ a = b) ?_ a
 intro k t n l ih b
 obtain ⟨k',t',n',l'⟩ := b
 have key : ∀ (l : List Qy),(∀ x,x ∈ l → ∀ b,sameQ x b = true ↔ x = b) → ∀ m,sameQL l m = true ↔ l = m := by
  intro l
  induction l with
  | nil =>
    intro _ m
    cases m with
    | nil => simp [sameQL]
    | cons b m => simp [sameQL]
  | cons a l ihl =>
    intro hx m
    cases m with
    | nil => simp [sameQL]
    | cons b m =>
      unfold sameQL
      rw [Bool.and_eq_true,hx a List.mem_cons_self,ihl (fun x h => hx x (List.mem_cons_of_mem _ h)),List.cons.injEq]
 unfold sameQ
 simp only [Bool.and_eq_true,decide_eq_true_eq,key l ih,Qy.mk.injEq]
theorem sameQ_refl (a : Qy) : sameQ a a = true := (sameQ_iff a a).2 rfl
mutual
def normalF : Qy → Bool → Qy
 | .mk k t n l,neg =>
   if k = 1 ∨ k = 2 then (if neg then .mk (3 - k) [] 0 [] else .mk k t n l)
   else if k = 9 then (normalL l (!neg)).headD (.mk 0 [] 0 [])
   else if k = 10 ∨ k = 11 then .mk (if neg then 21 - k else k) [] 0 (normalL l neg)
   else if k = 12 ∨ k = 13 then (if neg then .mk 9 [] 0 [.mk k [] 0 (normalL l false)] else .mk k [] 0 (normalL l false))
   else (if neg then .mk 9 [] 0 [.mk k t n l] else .mk k t n l)
def normalL : List Qy → Bool → List Qy
 | [],_ => []
 | q :: l,neg => normalF q neg :: normalL l neg
end
end Qv

end

section
open Go Go.RowKit
namespace Qv
def opsN (k : Int) : Nat := if k = 9 ∨ k = 12 ∨ k = 13 then 1 else if k = 10 ∨ k = 11 then 2 else 0
def wordedF (k : Int) : Bool := decide (3 ≤ k ∧ k ≤ 5) || decide (k = 8)
def numberedF (k : Int) : Bool := decide (k = 6) || decide (k = 7)
def hexB (c : UInt8) : Bool := (decide (48 ≤ c.toNat) && decide (c.toNat ≤ 57)) || (decide (97 ≤ c.toNat) && decide (c.toNat ≤ 102))
def hexF (s : Bytes) : Bool := decide (1 ≤ s.length) && (decide (s.length ≤ 64) && s.all hexB)
def partF (G : Bytes → Bool) (k : Int) (t : Bytes) (n : Int) (m : Nat) : Int :=
 if k < 1 ∨ 13 < k then 8
 else if (t ≠ [] ∧ wordedF k = false) ∨ (n ≠ 0 ∧ numberedF k = false) ∨ m ≠ opsN k then 1
 else if 200 < t.length then 4
 else if (k = 4 ∨ k = 5) ∧ G t = false then 3
 else if k = 8 ∧ hexF t = false then 3
 else if n < 0 ∨ 1099511627776 < n then 2
 else 0
mutual
def allE (G : Bytes → Bool) : Qy → Int
 | .mk k t n l => if partF G k t n l.length = 0 then allEL G l else partF G k t n l.length
def allEL (G : Bytes → Bool) : List Qy → Int
 | [] => 0
 | q :: l => if allE G q = 0 then allEL G l else allE G q
end
instance (q : Qy) (lim d : Nat) : Decidable (fitsQ q lim d) := inferInstanceAs (Decidable (_ ∧ _))
def checkQ (G : Bytes → Bool) (q : Qy) : Int := if fitsQ q 200 12 then allE G q else 4
theorem allEL_zero {G : Bytes → Bool} : ∀ {l : List Qy},allEL G l = 0 ↔ ∀ x,x ∈ l → allE G x = 0
 | [] => by simp [allEL]
 | q :: l => by
   unfold allEL
   split
   ·rename_i h
    rw [allEL_zero]
    simp [h]
   ·rename_i h
    simp [h]
theorem allE_zero {G : Bytes → Bool} {k : Int} {t : Bytes} {n : Int} {l : List Qy} : allE G (.mk k t n l) = 0 ↔ partF G k t n l.length = 0 ∧ ∀ x,x ∈ l → allE G x = 0 := by
 have e : allE G (.mk k t n l) = if partF G k t n l.length = 0 then allEL G l else partF G k t n l.length := rfl
 rw [e]
 split
 ·rename_i h
  rw [allEL_zero]
  simp [h]
 ·rename_i h
  simp [h]
theorem part_with {G : Bytes → Bool} {k : Int} {m : Nat} (h1 : 9 ≤ k) (h2 : k ≤ 13) (hm : m = opsN k) : partF G k [] 0 m = 0 := by
 unfold partF
 rw [if_neg (by omega),if_neg (by simp [hm]),if_neg (by simp),if_neg (by omega),if_neg (by omega),if_neg (by omega)]
theorem part_len {G : Bytes → Bool} {k : Int} {t : Bytes} {n : Int} {m : Nat} (h : partF G k t n m = 0) : m = opsN k ∧ 1 ≤ k ∧ k ≤ 13 ∧ (9 ≤ k → t = [] ∧ n = 0) := by
 unfold partF at h
 split at h
 ·cases h
 ·rename_i h1
  split at h
  ·cases h
  ·rename_i h2
   refine ⟨by
    apply Classical.byContradiction
    intro hm
    exact h2 (.inr (.inr hm)),by omega,by omega,fun h9 => ?_⟩
   have w : wordedF k = false := by simp [wordedF]; omega
   have u : numberedF k = false := by simp [numberedF]; omega
   constructor
   ·apply Classical.byContradiction
    intro ht
    exact h2 (.inl ⟨ht,w⟩)
   ·apply Classical.byContradiction
    intro hn
    exact h2 (.inr (.inl ⟨hn,u⟩))
end Qv

end

section
open Go Go.RowKit
namespace Qv
theorem opsN_one {k : Int} (h : k = 9 ∨ k = 12 ∨ k = 13) : opsN k = 1 := if_pos h
theorem opsN_two {k : Int} (h : k = 10 ∨ k = 11) : opsN k = 2 := by
 unfold opsN
 rw [if_neg (by omega),if_pos h]
theorem opsN_zero {k : Int} (h : k < 9 ∨ 13 < k) : opsN k = 0 := by
 unfold opsN
 rw [if_neg (by omega),if_neg (by omega)]
theorem valid_cases {G : Bytes → Bool} {k : Int} {t : Bytes} {n : Int} {l : List Qy} (h : allE G (.mk k t n l) = 0) :
 (1 ≤ k ∧ k ≤ 8 ∧ l = []) ∨ ((k = 9 ∨ k = 12 ∨ k = 13) ∧ t = [] ∧ n = 0 ∧ ∃ a,l = [a] ∧ allE G a = 0) ∨ ((k = 10 ∨ k = 11) ∧ t = [] ∧ n = 0 ∧ ∃ a b,l = [a,b] ∧ allE G a = 0 ∧ allE G b = 0) := by
 obtain ⟨h1,h2⟩ := allE_zero.1 h
 obtain ⟨p1,p2,p3,p4⟩ := part_len h1
 by_cases c1 : k ≤ 8
 ·rw [opsN_zero (by omega)] at p1
  exact .inl ⟨p2,c1,List.length_eq_zero_iff.1 p1⟩
 obtain ⟨q1,q2⟩ := p4 (by omega)
 by_cases c2 : k = 10 ∨ k = 11
 ·rw [opsN_two c2] at p1
  match l,p1 with
  | [a,b],_ => exact .inr (.inr ⟨c2,q1,q2,a,b,rfl,h2 a (by simp),h2 b (by simp)⟩)
 ·have c3 : k = 9 ∨ k = 12 ∨ k = 13 := by omega
  rw [opsN_one c3] at p1
  match l,p1 with
  | [a],_ => exact .inr (.inl ⟨c3,q1,q2,a,rfl,h2 a (by simp)⟩)
theorem valid_one {G : Bytes → Bool} {k : Int} {a : Qy} (hk : k = 9 ∨ k = 12 ∨ k = 13) (ha : allE G a = 0) : allE G (.mk k [] 0 [a]) = 0 :=
 allE_zero.2 ⟨part_with (by omega) (by omega) (opsN_one hk).symm,fun x hx => by rw [List.mem_singleton.1 hx]; exact ha⟩
theorem valid_two {G : Bytes → Bool} {k : Int} {a b : Qy} (hk : k = 10 ∨ k = 11) (ha : allE G a = 0) (hb : allE G b = 0) : allE G (.mk k [] 0 [a,b]) = 0 :=
 allE_zero.2 ⟨part_with (by omega) (by omega) (opsN_two hk).symm,fun x hx => by
  rcases List.mem_cons.1 hx with rfl | hx
  ·exact ha
  ·rw [List.mem_singleton.1 hx]; exact hb⟩
theorem valid_const {G : Bytes → Bool} {k : Int} (hk : k = 1 ∨ k = 2) : allE G (.mk k [] 0 []) = 0 := by
 rcases hk with rfl | rfl <;> rfl
theorem normal_eq (k : Int) (t : Bytes) (n : Int) (l : List Qy) (neg : Bool) : normalF (.mk k t n l) neg =
 if k = 1 ∨ k = 2 then (if neg then .mk (3 - k) [] 0 [] else .mk k t n l)
 else if k = 9 then (normalL l (!neg)).headD (.mk 0 [] 0 [])
 else if k = 10 ∨ k = 11 then .mk (if neg then 21 - k else k) [] 0 (normalL l neg)
 else if k = 12 ∨ k = 13 then (if neg then .mk 9 [] 0 [.mk k [] 0 (normalL l false)] else .mk k [] 0 (normalL l false))
 else (if neg then .mk 9 [] 0 [.mk k t n l] else .mk k t n l) := rfl
theorem normal_const {k : Int} {t : Bytes} {n : Int} {l : List Qy} {neg : Bool} (h : k = 1 ∨ k = 2) : normalF (.mk k t n l) neg = if neg then .mk (3 - k) [] 0 [] else .mk k t n l := by
 rw [normal_eq,if_pos h]
theorem normal_not {t : Bytes} {n : Int} {a : Qy} {neg : Bool} : normalF (.mk 9 t n [a]) neg = normalF a (!neg) := by
 rw [normal_eq,if_neg (by omega),if_pos rfl]
 rfl
theorem normal_both {k : Int} {t : Bytes} {n : Int} {a b : Qy} {neg : Bool} (h : k = 10 ∨ k = 11) : normalF (.mk k t n [a,b]) neg = .mk (if neg then 21 - k else k) [] 0 [normalF a neg,normalF b neg] := by
 rw [normal_eq,if_neg (by omega),if_neg (by omega),if_pos h]
 rfl
theorem normal_over {k : Int} {t : Bytes} {n : Int} {a : Qy} {neg : Bool} (h : k = 12 ∨ k = 13) : normalF (.mk k t n [a]) neg = if neg then .mk 9 [] 0 [.mk k [] 0 [normalF a false]] else .mk k [] 0 [normalF a false] := by
 rw [normal_eq,if_neg (by omega),if_neg (by omega),if_neg (by omega),if_pos h]
 rfl
theorem normal_leaf {k : Int} {t : Bytes} {n : Int} {l : List Qy} {neg : Bool} (h : 3 ≤ k ∧ k ≤ 8) : normalF (.mk k t n l) neg = if neg then .mk 9 [] 0 [.mk k t n l] else .mk k t n l := by
 rw [normal_eq,if_neg (by omega),if_neg (by omega),if_neg (by omega),if_neg (by omega)]
end Qv

end

section
open Go Go.RowKit
namespace Qv
end Qv

end

section
open Go Go.RowKit
namespace Qv
def zeroQ : Qy := .mk 0 [] 0 []
def Qy.nth (q : Qy) (i : Nat) : Qy := (q.sub[i]?).getD zeroQ
def negatesF (a b : Qy) : Bool := decide (a.kind = 9) && sameQ (a.nth 0) b
def beginsF (s t : Bytes) : Bool := t.isPrefixOf s
def leavesF (O : Bytes → Bytes → Bool) (a b : Qy) : Bool :=
 if a.kind = 3 ∧ b.kind = 3 then !decide (a.text = b.text)
 else if a.kind = 8 ∧ b.kind = 8 then !(beginsF a.text b.text || beginsF b.text a.text)
 else if a.kind = 4 ∧ b.kind = 4 then !O a.text b.text
 else if a.kind = 6 ∧ b.kind = 7 then decide (a.num ≤ b.num + 1)
 else if a.kind = 7 ∧ b.kind = 6 then decide (b.num ≤ a.num + 1)
 else false
def disjN (O : Bytes → Bytes → Bool) : Nat → Qy → Qy → Bool
 | 0,_,_ => false
 | n + 1,a,b =>
   if (decide (a.kind = 2) || (decide (b.kind = 2) || (negatesF a b || negatesF b a))) = true then true
   else if a.kind = 11 then disjN O n (a.nth 0) b && disjN O n (a.nth 1) b
   else if b.kind = 11 then disjN O n a (b.nth 0) && disjN O n a (b.nth 1)
   else if a.kind = 10 then disjN O n (a.nth 0) b || disjN O n (a.nth 1) b
   else if b.kind = 10 then disjN O n a (b.nth 0) || disjN O n a (b.nth 1)
   else leavesF O a b
theorem parts_nth {q : Qy} {i : Nat} (h : i < q.sub.length) : (q.nth i).parts < q.parts := by
 obtain ⟨k,t,n,l⟩ := q
 have h : i < l.length := h
 have key : ∀ (l : List Qy) (i : Nat) (h : i < l.length),l[i].parts ≤ partsL l := by
  intro l
  induction l with
  | nil => intro i h; cases h
  | cons x l ih =>
    intro i h
    cases i with
    | zero => show x.parts ≤ x.parts + partsL l; omega
    | succ i =>
      have hi : i < l.length := by simpa using h
      have := ih i hi
      show (l[i]'hi).parts ≤ x.parts + partsL l
      omega
 have e : (Qy.mk k t n l).nth i = l[i] := by
  show (l[i]?).getD zeroQ = _
  rw [List.getElem?_eq_getElem h]; rfl
 rw [e]
 have := key l i h
 show _ < partsL l + 1
 omega
def disjF (O : Bytes → Bytes → Bool) (a b : Qy) : Bool := disjN O (a.parts + b.parts) a b
def eitherF (O : Bytes → Bytes → Bool) (a b : Qy) : Bool := disjF O a b || disjF O b a
end Qv

end

section
open Go Go.RowKit
namespace Qv
def constQ (k : Int) : Qy := .mk k [] 0 []
def hasF (q : Qy) (k : Int) (x : Qy) : Bool := decide (q.kind = k) && (sameQ (q.nth 0) x || sameQ (q.nth 1) x)
def idsF (a b : Qy) : Bool := decide (a.kind = 8) && (decide (b.kind = 8) && (beginsF a.text b.text || beginsF b.text a.text))
def andF (O : Bytes → Bytes → Bool) (q a b : Qy) : Qy :=
 if a.kind = 1 then b
 else if b.kind = 1 then a
 else if sameQ a b = true then a
 else if a.kind = 6 ∧ b.kind = 6 then (if a.num ≤ b.num then a else b)
 else if a.kind = 7 ∧ b.kind = 7 then (if b.num ≤ a.num then a else b)
 else if idsF a b = true then (if b.text.length ≤ a.text.length then a else b)
 else if eitherF O a b = true then constQ 2
 else if hasF a 11 b = true then b
 else if hasF b 11 a = true then a
 else q
def orF (q a b : Qy) : Qy :=
 if a.kind = 2 then b
 else if b.kind = 2 then a
 else if (decide (a.kind = 1) || (decide (b.kind = 1) || (negatesF a b || negatesF b a))) = true then constQ 1
 else if sameQ a b = true then a
 else if a.kind = 6 ∧ b.kind = 6 then (if b.num ≤ a.num then a else b)
 else if a.kind = 7 ∧ b.kind = 7 then (if a.num ≤ b.num then a else b)
 else if idsF a b = true then (if a.text.length ≤ b.text.length then a else b)
 else if hasF a 10 b = true then b
 else if hasF b 10 a = true then a
 else q
def notF (q a : Qy) : Qy :=
 if a.kind = 1 then constQ 2
 else if a.kind = 2 then constQ 1
 else if a.kind = 9 then a.nth 0
 else q
def closedF (q a : Qy) : Qy := if a.kind = 1 ∨ a.kind = 2 ∨ a.kind = q.kind then a else q
def stepQ (O : Bytes → Bytes → Bool) (q : Qy) : Qy :=
 if q.kind = 9 then notF q (q.nth 0)
 else if q.kind = 10 then andF O q (q.nth 0) (q.nth 1)
 else if q.kind = 11 then orF q (q.nth 0) (q.nth 1)
 else if q.kind = 12 ∨ q.kind = 13 then closedF q (q.nth 0)
 else q
mutual
def optF (O : Bytes → Bytes → Bool) : Qy → Qy
 | .mk k t n l => stepQ O (.mk k t n (optL O l))
def optL (O : Bytes → Bytes → Bool) : List Qy → List Qy
 | [] => []
 | q :: l => optF O q :: optL O l
end
theorem optL_map (O : Bytes → Bytes → Bool) : ∀ l,optL O l = l.map (optF O)
 | [] => rfl
 | q :: l => by show optF O q :: optL O l = _; rw [optL_map O l]; rfl
def weightF (k : Int) : Nat := if k = 8 then 2 else if k = 3 ∨ k = 6 ∨ k = 7 then 3 else if k = 4 then 5 else if k = 5 then 20 else if k = 12 ∨ k = 13 then 10 else 1
mutual
def costF : Qy → Nat
 | .mk k _ _ l => costL l + weightF k
def costL : List Qy → Nat
 | [] => 0
 | q :: l => costF q + costL l
end
theorem weight_pos (k : Int) : 0 < weightF k := by
 unfold weightF
 repeat' split
 all_goals omega
inductive From (q : Qy) : Qy → Prop
 | self : From q q
 | elem (a : Qy) : a ∈ q.sub → From q a
 | deep (a b : Qy) : a ∈ q.sub → b ∈ a.sub → From q b
 | all : q.sub ≠ [] → From q (constQ 1)
 | none : q.sub ≠ [] → From q (constQ 2)
theorem nth_mem {q : Qy} {i : Nat} (h : i < q.sub.length) : q.nth i ∈ q.sub := by
 unfold Qy.nth
 rw [List.getElem?_eq_getElem h]
 exact List.getElem_mem h
theorem and_from (O : Bytes → Bytes → Bool) {q a b : Qy} (ha : a ∈ q.sub) (hb : b ∈ q.sub) : From q (andF O q a b) := by
 have hn : q.sub ≠ [] := fun e => by rw [e] at ha; cases ha
 unfold andF
 repeat' split
 all_goals first | exact .elem a ha | exact .elem b hb | exact .none hn | exact .self
theorem or_from {q a b : Qy} (ha : a ∈ q.sub) (hb : b ∈ q.sub) : From q (orF q a b) := by
 have hn : q.sub ≠ [] := fun e => by rw [e] at ha; cases ha
 unfold orF
 repeat' split
 all_goals first | exact .elem a ha | exact .elem b hb | exact .all hn | exact .self
theorem closed_from {q a : Qy} (ha : a ∈ q.sub) : From q (closedF q a) := by
 unfold closedF
 split
 ·exact .elem a ha
 ·exact .self
theorem not_from {q a : Qy} (ha : a ∈ q.sub) (h9 : a.kind = 9 → 0 < a.sub.length) : From q (notF q a) := by
 have hn : q.sub ≠ [] := fun e => by rw [e] at ha; cases ha
 unfold notF
 split
 ·exact .none hn
 split
 ·exact .all hn
 split
 ·rename_i h
  exact .deep a _ ha (nth_mem (h9 h))
 ·exact .self
end Qv

end

section
open Go Go.RowKit
namespace Qv
inductive Stable (O : Bytes → Bytes → Bool) : Qy → Prop
 | mk (k : Int) (t : Bytes) (n : Int) (l : List Qy) : (∀ x,x ∈ l → Stable O x) → stepQ O (.mk k t n l) = .mk k t n l → Stable O (.mk k t n l)
theorem Stable.sub {O : Bytes → Bytes → Bool} {q : Qy} (h : Stable O q) : ∀ x,x ∈ q.sub → Stable O x := by
 cases h with
 | mk k t n l h1 h2 => exact h1
theorem step_leaf (O : Bytes → Bytes → Bool) {k : Int} {t : Bytes} {n : Int} {l : List Qy} (h : k ≤ 8 ∨ 13 < k) : stepQ O (.mk k t n l) = .mk k t n l := by
 unfold stepQ
 show (if k = 9 then _ else _) = _
 rw [if_neg (by omega)]
 show (if k = 10 then _ else _) = _
 rw [if_neg (by omega)]
 show (if k = 11 then _ else _) = _
 rw [if_neg (by omega)]
 show (if k = 12 ∨ k = 13 then _ else _) = _
 rw [if_neg (by omega)]
theorem sub_valid {G : Bytes → Bool} {q : Qy} (h : allE G q = 0) : ∀ x,x ∈ q.sub → allE G x = 0 := by
 obtain ⟨k,t,n,l⟩ := q
 exact (allE_zero.1 h).2
theorem nine_len {G : Bytes → Bool} {q : Qy} (h : allE G q = 0) (h9 : q.kind = 9) : 0 < q.sub.length := by
 obtain ⟨k,t,n,l⟩ := q
 have h9 : k = 9 := h9
 rcases valid_cases h with ⟨_,h8,_⟩ | ⟨_,_,_,a,rfl,_⟩ | ⟨h10,_⟩
 ·omega
 ·show 0 < 1; omega
 ·omega
theorem step_from (O : Bytes → Bytes → Bool) {G : Bytes → Bool} {q : Qy} (h : allE G q = 0) : From q (stepQ O q) := by
 obtain ⟨k,t,n,l⟩ := q
 rcases valid_cases h with ⟨_,h8,_⟩ | ⟨hk,rfl,rfl,a,rfl,ha⟩ | ⟨hk,rfl,rfl,a,b,rfl,ha,hb⟩
 ·rw [step_leaf O (.inl h8)]
  exact .self
 ·have m : a ∈ (Qy.mk k [] 0 [a]).sub := List.mem_singleton.2 rfl
  unfold stepQ
  show From _ (if k = 9 then notF (.mk k [] 0 [a]) a else if k = 10 then _ else if k = 11 then _ else if k = 12 ∨ k = 13 then closedF (.mk k [] 0 [a]) a else _)
  by_cases h9 : k = 9
  ·rw [if_pos h9]
   exact not_from m fun e => nine_len ha e
  ·rw [if_neg h9,if_neg (by omega),if_neg (by omega),if_pos (by omega)]
   exact closed_from m
 ·have ma : a ∈ (Qy.mk k [] 0 [a,b]).sub := by show a ∈ [a,b]; simp
  have mb : b ∈ (Qy.mk k [] 0 [a,b]).sub := by show b ∈ [a,b]; simp
  unfold stepQ
  show From _ (if k = 9 then _ else if k = 10 then andF O (.mk k [] 0 [a,b]) a b else if k = 11 then orF (.mk k [] 0 [a,b]) a b else _)
  rw [if_neg (by omega)]
  by_cases h10 : k = 10
  ·rw [if_pos h10]
   exact and_from O ma mb
  ·rw [if_neg h10,if_pos (by omega)]
   exact or_from ma mb
theorem elem_le {q a : Qy} (h : a ∈ q.sub) : a.parts < q.parts ∧ a.depth < q.depth ∧ costF a < costF q := by
 obtain ⟨k,t,n,l⟩ := q
 have h : a ∈ l := h
 have key : ∀ l : List Qy,a ∈ l → a.parts ≤ partsL l ∧ a.depth ≤ depthL l ∧ costF a ≤ costL l := by
  intro l
  induction l with
  | nil => intro h; cases h
  | cons x l ih =>
    intro h
    rcases List.mem_cons.1 h with rfl | h
    ·refine ⟨?_,?_,?_⟩
     ·show _ ≤ a.parts + partsL l; omega
     ·show _ ≤ max a.depth (depthL l); omega
     ·show _ ≤ costF a + costL l; omega
    ·obtain ⟨i1,i2,i3⟩ := ih h
     refine ⟨?_,?_,?_⟩
     ·show _ ≤ x.parts + partsL l; omega
     ·show _ ≤ max x.depth (depthL l); omega
     ·show _ ≤ costF x + costL l; omega
 obtain ⟨i1,i2,i3⟩ := key l h
 have := weight_pos k
 refine ⟨?_,?_,?_⟩
 ·show _ < partsL l + 1; omega
 ·show _ < depthL l + 1; omega
 ·show _ < costL l + weightF k; omega
theorem const_stable (O : Bytes → Bytes → Bool) {k : Int} (h : k ≤ 8) : Stable O (constQ k) :=
 .mk k [] 0 [] (fun x hx => by cases hx) (step_leaf O (.inl h))
structure Below (q r : Qy) : Prop where
 parts : r.parts ≤ q.parts
 depth : r.depth ≤ q.depth
 cost : costF r ≤ costF q
theorem from_facts {O : Bytes → Bytes → Bool} {G : Bytes → Bool} {q r : Qy} (hv : allE G q = 0) (hs : ∀ x,x ∈ q.sub → Stable O x) (f : From q r) :
 allE G r = 0 ∧ Below q r ∧ (r = q ∨ Stable O r) := by
 have con : ∀ k : Int,(k = 1 ∨ k = 2) → q.sub ≠ [] → allE G (constQ k) = 0 ∧ Below q (constQ k) ∧ (constQ k = q ∨ Stable O (constQ k)) := by
  intro k hk hn
  obtain ⟨x,hx⟩ := List.exists_mem_of_ne_nil _ hn
  obtain ⟨e1,e2,e3⟩ := elem_le hx
  have c : costF (constQ k) = 1 := by rcases hk with rfl | rfl <;> rfl
  refine ⟨valid_const hk,⟨?_,?_,?_⟩,.inr (const_stable O (by omega))⟩
  ·show 1 ≤ _; omega
  ·show 1 ≤ _; omega
  ·rw [c]; omega
 cases f with
 | self => exact ⟨hv,⟨Nat.le_refl _,Nat.le_refl _,Nat.le_refl _⟩,.inl rfl⟩
 | elem a ha =>
   obtain ⟨e1,e2,e3⟩ := elem_le ha
   exact ⟨sub_valid hv _ ha,⟨by omega,by omega,by omega⟩,.inr (hs _ ha)⟩
 | deep a b ha hb =>
   obtain ⟨e1,e2,e3⟩ := elem_le ha
   obtain ⟨f1,f2,f3⟩ := elem_le hb
   exact ⟨sub_valid (sub_valid hv _ ha) _ hb,⟨by omega,by omega,by omega⟩,.inr ((hs _ ha).sub _ hb)⟩
 | all hn => exact con 1 (.inl rfl) hn
 | none hn => exact con 2 (.inr rfl) hn
theorem step_facts {O : Bytes → Bytes → Bool} {G : Bytes → Bool} {q : Qy} (hv : allE G q = 0) (hs : ∀ x,x ∈ q.sub → Stable O x) :
 allE G (stepQ O q) = 0 ∧ Below q (stepQ O q) ∧ Stable O (stepQ O q) := by
 obtain ⟨f1,f2,f3⟩ := from_facts hv hs (step_from O hv)
 refine ⟨f1,f2,?_⟩
 rcases f3 with e | f3
 ·rw [e]
  obtain ⟨k,t,n,l⟩ := q
  exact .mk k t n l hs e
 ·exact f3
theorem below_trans {a b c : Qy} (h : Below a b) (g : Below b c) : Below a c :=
 ⟨Nat.le_trans g.1 h.1,Nat.le_trans g.2 h.2,Nat.le_trans g.3 h.3⟩
theorem opt_facts {O : Bytes → Bytes → Bool} {G : Bytes → Bool} (q : Qy) : allE G q = 0 → allE G (optF O q) = 0 ∧ Below q (optF O q) ∧ Stable O (optF O q) := by
 refine Qy.ind (P := fun q => allE G q = 0 → allE G (optF O q) = 0 ∧ Below q (optF O q) ∧ Stable O (optF O q)) ?_ q
 intro k t n l ih h
 have key : allE G (.mk k t n (optL O l)) = 0 ∧ Below (.mk k t n l) (.mk k t n (optL O l)) ∧ ∀ x,x ∈ optL O l → Stable O x := by
  rcases valid_cases h with ⟨_,h8,rfl⟩ | ⟨hk,rfl,rfl,a,rfl,ha⟩ | ⟨hk,rfl,rfl,a,b,rfl,ha,hb⟩
  ·exact ⟨h,⟨Nat.le_refl _,Nat.le_refl _,Nat.le_refl _⟩,fun x hx => by cases hx⟩
  ·obtain ⟨i1,⟨i2,i3,i4⟩,i5⟩ := ih a (by simp) ha
   refine ⟨valid_one hk i1,⟨?_,?_,?_⟩,?_⟩
   ·show (optF O a).parts + 0 + 1 ≤ a.parts + 0 + 1; omega
   ·show max (optF O a).depth 0 + 1 ≤ max a.depth 0 + 1; omega
   ·show costF (optF O a) + 0 + weightF k ≤ costF a + 0 + weightF k; omega
   ·intro x hx
    have hx : x ∈ [optF O a] := hx
    rw [List.mem_singleton.1 hx]; exact i5
  ·obtain ⟨i1,⟨i2,i3,i4⟩,i5⟩ := ih a (by simp) ha
   obtain ⟨j1,⟨j2,j3,j4⟩,j5⟩ := ih b (by simp) hb
   refine ⟨valid_two hk i1 j1,⟨?_,?_,?_⟩,?_⟩
   ·show (optF O a).parts + ((optF O b).parts + 0) + 1 ≤ a.parts + (b.parts + 0) + 1; omega
   ·show max (optF O a).depth (max (optF O b).depth 0) + 1 ≤ max a.depth (max b.depth 0) + 1; omega
   ·show costF (optF O a) + (costF (optF O b) + 0) + weightF k ≤ costF a + (costF b + 0) + weightF k; omega
   ·intro x hx
    have hx : x ∈ [optF O a,optF O b] := hx
    rcases List.mem_cons.1 hx with rfl | hx
    ·exact i5
    ·rw [List.mem_singleton.1 hx]; exact j5
 obtain ⟨k1,k2,k3⟩ := key
 obtain ⟨s1,s2,s3⟩ := step_facts (O := O) k1 k3
 exact ⟨s1,below_trans k2 s2,s3⟩
def andR (O : Bytes → Bytes → Bool) (q a b : Qy) : Qy :=
 if a.kind = 1 then b
 else if (decide (b.kind = 1) || sameQ a b) = true then a
 else if (decide (a.kind = b.kind) && (decide (a.kind = 6) || decide (a.kind = 7))) = true then (if decide (a.num < b.num) = decide (a.kind = 6) then a else b)
 else if idsF a b = true then (if b.text.length < a.text.length then a else b)
 else if eitherF O a b = true then constQ 2
 else if hasF a 11 b = true then b
 else if hasF b 11 a = true then a
 else q
def orR (q a b : Qy) : Qy :=
 if a.kind = 2 then b
 else if b.kind = 2 then a
 else if (decide (a.kind = 1) || (decide (b.kind = 1) || (negatesF a b || negatesF b a))) = true then constQ 1
 else if sameQ a b = true then a
 else if (decide (a.kind = b.kind) && (decide (a.kind = 6) || decide (a.kind = 7))) = true then (if decide (b.num < a.num) = decide (a.kind = 6) then a else b)
 else if idsF a b = true then (if a.text.length < b.text.length then a else b)
 else if hasF a 10 b = true then b
 else if hasF b 10 a = true then a
 else q
theorem num_same {G : Bytes → Bool} {a b : Qy} (ha : allE G a = 0) (hb : allE G b = 0) (hk : a.kind = b.kind) (h : a.kind = 6 ∨ a.kind = 7) (hn : a.num = b.num) : a = b := by
 obtain ⟨k,t,n,l⟩ := a
 obtain ⟨k',t',n',l'⟩ := b
 have hk : k = k' := hk
 have hn : n = n' := hn
 have h : k = 6 ∨ k = 7 := h
 subst hk
 subst hn
 have bare : ∀ {t : Bytes} {l : List Qy},allE G (.mk k t n l) = 0 → t = [] ∧ l = [] := by
  intro t l hv
  have p := (allE_zero.1 hv).1
  refine ⟨?_,?_⟩
  ·apply Classical.byContradiction
   intro ht
   have w : wordedF k = false := by simp [wordedF]; omega
   unfold partF at p
   rw [if_neg (by omega),if_pos (.inl ⟨ht,w⟩)] at p
   cases p
  ·have := (part_len p).1
   rw [opsN_zero (by omega)] at this
   exact List.length_eq_zero_iff.1 this
 obtain ⟨e1,e2⟩ := bare ha
 obtain ⟨f1,f2⟩ := bare hb
 rw [e1,e2,f1,f2]; rfl
theorem id_same {G : Bytes → Bool} {a b : Qy} (ha : allE G a = 0) (hb : allE G b = 0) (h : idsF a b = true) (hn : a.text.length = b.text.length) : a = b := by
 obtain ⟨k,t,n,l⟩ := a
 obtain ⟨k',t',n',l'⟩ := b
 have hn : t.length = t'.length := hn
 unfold idsF at h
 have h : (decide (k = 8) && (decide (k' = 8) && (beginsF t t' || beginsF t' t))) = true := h
 rw [Bool.and_eq_true,Bool.and_eq_true,Bool.or_eq_true,decide_eq_true_eq,decide_eq_true_eq] at h
 obtain ⟨rfl,rfl,hp⟩ := h
 have bare : ∀ {t : Bytes} {n : Int} {l : List Qy},allE G (.mk 8 t n l) = 0 → n = 0 ∧ l = [] := by
  intro t n l hv
  have p := (allE_zero.1 hv).1
  refine ⟨?_,?_⟩
  ·apply Classical.byContradiction
   intro hn
   have w : numberedF 8 = false := rfl
   unfold partF at p
   rw [if_neg (by omega),if_pos (.inr (.inl ⟨hn,w⟩))] at p
   cases p
  ·have := (part_len p).1
   exact List.length_eq_zero_iff.1 this
 obtain ⟨e1,e2⟩ := bare ha
 obtain ⟨f1,f2⟩ := bare hb
 have : t = t' := by
  unfold beginsF at hp
  rw [List.isPrefixOf_iff_prefix,List.isPrefixOf_iff_prefix] at hp
  rcases hp with hp | hp
  ·exact (hp.eq_of_length hn.symm).symm
  ·exact hp.eq_of_length hn
 rw [e1,e2,f1,f2,this]
theorem andR_eq {O : Bytes → Bytes → Bool} {G : Bytes → Bool} {q a b : Qy} (ha : allE G a = 0) (hb : allE G b = 0) : andR O q a b = andF O q a b := by
 unfold andR andF
 by_cases h1 : a.kind = 1
 ·rw [if_pos h1,if_pos h1]
 rw [if_neg h1,if_neg h1]
 by_cases h2 : b.kind = 1
 ·rw [decide_eq_true h2,Bool.true_or,if_pos rfl,if_pos h2]
 rw [decide_eq_false h2,Bool.false_or,if_neg h2]
 by_cases h3 : sameQ a b = true
 ·rw [if_pos h3,if_pos h3]
 rw [if_neg h3,if_neg h3]
 have hne : a ≠ b := fun e => h3 ((sameQ_iff a b).2 e)
 by_cases h6 : a.kind = 6 ∧ b.kind = 6
 ·rw [decide_eq_true (h6.1.trans h6.2.symm),decide_eq_true h6.1,Bool.true_or,Bool.true_and,if_pos rfl,if_pos h6]
  have : a.num ≠ b.num := fun e => hne (num_same ha hb (h6.1.trans h6.2.symm) (.inl h6.1) e)
  by_cases c : a.num < b.num
  ·rw [decide_eq_true c,if_pos rfl,if_pos (by omega)]
  ·rw [decide_eq_false c,if_neg (by simp),if_neg (by omega)]
 rw [if_neg h6]
 by_cases h7 : a.kind = 7 ∧ b.kind = 7
 ·rw [decide_eq_true (h7.1.trans h7.2.symm),decide_eq_true h7.1,Bool.or_true,Bool.true_and,if_pos rfl,if_pos h7]
  have : a.num ≠ b.num := fun e => hne (num_same ha hb (h7.1.trans h7.2.symm) (.inr h7.1) e)
  have k6 : decide (a.kind = 6) = false := decide_eq_false (by omega)
  rw [k6]
  by_cases c : a.num < b.num
  ·rw [decide_eq_true c,if_neg (by simp),if_neg (by omega)]
  ·rw [decide_eq_false c,if_pos rfl,if_pos (by omega)]
 rw [if_neg h7]
 have h67 : ¬ (decide (a.kind = b.kind) && (decide (a.kind = 6) || decide (a.kind = 7))) = true := by
  rw [Bool.and_eq_true,Bool.or_eq_true,decide_eq_true_eq,decide_eq_true_eq,decide_eq_true_eq]
  rintro ⟨e,e6 | e7⟩
  ·exact h6 ⟨e6,e ▸ e6⟩
  ·exact h7 ⟨e7,e ▸ e7⟩
 rw [if_neg h67]
 by_cases h8 : idsF a b = true
 ·rw [if_pos h8,if_pos h8]
  have : a.text.length ≠ b.text.length := fun e => hne (id_same ha hb h8 e)
  by_cases c : b.text.length < a.text.length
  ·rw [if_pos c,if_pos (by omega)]
  ·rw [if_neg c,if_neg (by omega)]
 rw [if_neg h8,if_neg h8]
theorem orR_eq {G : Bytes → Bool} {q a b : Qy} (ha : allE G a = 0) (hb : allE G b = 0) : orR q a b = orF q a b := by
 unfold orR orF
 by_cases h1 : a.kind = 2
 ·rw [if_pos h1,if_pos h1]
 rw [if_neg h1,if_neg h1]
 by_cases h2 : b.kind = 2
 ·rw [if_pos h2,if_pos h2]
 rw [if_neg h2,if_neg h2]
 by_cases h0 : (decide (a.kind = 1) || (decide (b.kind = 1) || (negatesF a b || negatesF b a))) = true
 ·rw [if_pos h0,if_pos h0]
 rw [if_neg h0,if_neg h0]
 by_cases h3 : sameQ a b = true
 ·rw [if_pos h3,if_pos h3]
 rw [if_neg h3,if_neg h3]
 have hne : a ≠ b := fun e => h3 ((sameQ_iff a b).2 e)
 by_cases h6 : a.kind = 6 ∧ b.kind = 6
 ·rw [decide_eq_true (h6.1.trans h6.2.symm),decide_eq_true h6.1,Bool.true_or,Bool.true_and,if_pos rfl,if_pos h6]
  have : a.num ≠ b.num := fun e => hne (num_same ha hb (h6.1.trans h6.2.symm) (.inl h6.1) e)
  by_cases c : b.num < a.num
  ·rw [decide_eq_true c,if_pos rfl,if_pos (by omega)]
  ·rw [decide_eq_false c,if_neg (by simp),if_neg (by omega)]
 rw [if_neg h6]
 by_cases h7 : a.kind = 7 ∧ b.kind = 7
 ·rw [decide_eq_true (h7.1.trans h7.2.symm),decide_eq_true h7.1,Bool.or_true,Bool.true_and,if_pos rfl,if_pos h7]
  have : a.num ≠ b.num := fun e => hne (num_same ha hb (h7.1.trans h7.2.symm) (.inr h7.1) e)
  have k6 : decide (a.kind = 6) = false := decide_eq_false (by omega)
  rw [k6]
  by_cases c : b.num < a.num
  ·rw [decide_eq_true c,if_neg (by simp),if_neg (by omega)]
  ·rw [decide_eq_false c,if_pos rfl,if_pos (by omega)]
 rw [if_neg h7]
 have h67 : ¬ (decide (a.kind = b.kind) && (decide (a.kind = 6) || decide (a.kind = 7))) = true := by
  rw [Bool.and_eq_true,Bool.or_eq_true,decide_eq_true_eq,decide_eq_true_eq,decide_eq_true_eq]
  rintro ⟨e,e6 | e7⟩
  ·exact h6 ⟨e6,e ▸ e6⟩
  ·exact h7 ⟨e7,e ▸ e7⟩
 rw [if_neg h67]
 by_cases h8 : idsF a b = true
 ·rw [if_pos h8,if_pos h8]
  have : a.text.length ≠ b.text.length := fun e => hne (id_same ha hb h8 e)
  by_cases c : a.text.length < b.text.length
  ·rw [if_pos c,if_pos (by omega)]
  ·rw [if_neg c,if_neg (by omega)]
 rw [if_neg h8,if_neg h8]
end Qv

end
