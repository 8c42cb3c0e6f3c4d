/- Several texts in one: The language of queries in plain terms: tokens, the reader of queries and what follows. No condition. -/
import Derived.Test.YtpoefbbfhebakaaGreatDoorC7
import Derived.Lib.AtoiAll
import Derived.Lib.ItoaNum
import Derived.Test.YtpoefbbfhebakaaGreatDoorC8
set_option linter.unusedVariables false
set_option linter.unusedSimpArgs false

section
open Go Go.RowKit
namespace Qv
inductive Tk where
 | stop
 | bad
 | word (k : Nat)
 | num (n : Nat)
 | str (t : Bytes)
 | lp
 | rp
def Tk.bad? : Tk → Bool
 | .bad => true
 | _ => false
inductive PR (α : Type) where
 | ok (q : Qy) (l : List (Tk × α))
 | err (a : α)
inductive Md where
 | unit
 | conj
 | disj
 | andL (q : Qy)
 | orL (q : Qy)
section
variable {α β : Type}
def okT (l : List (Tk × α)) (K : List (Tk × α) → Option (PR α)) : Option (PR α) := match l with
 | [] => none
 | x :: l => match x.1 with
   | .bad => some (.err x.2)
   | _ => K (x :: l)
def bindT (r : Option (PR α)) (K : Qy → List (Tk × α) → Option (PR α)) : Option (PR α) := match r with
 | some (.ok q l) => K q l
 | some (.err a) => some (.err a)
 | none => none
def opersN (k : Nat) : Nat := if k = 9 ∨ k = 12 ∨ k = 13 then 1 else if k = 10 ∨ k = 11 then 2 else 0
def textualN (k : Nat) : Bool := decide (k = 3 ∨ k = 4 ∨ k = 5 ∨ k = 8)
def numericN (k : Nat) : Bool := decide (k = 6 ∨ k = 7)
def simpT (unit : List (Tk × α) → Option (PR α)) (k : Nat) (l : List (Tk × α)) : Option (PR α) :=
 if opersN k = 1 then bindT (unit l) fun q l => some (.ok (.mk k [] 0 [q]) l)
 else if textualN k = true then match l with
  | (.str t,_) :: l => okT l fun l => some (.ok (.mk k t 0 []) l)
  | (_,a) :: _ => some (.err a)
  | [] => none
 else if numericN k = true then match l with
  | (.num n,_) :: l => okT l fun l => some (.ok (.mk k [] n []) l)
  | (_,a) :: _ => some (.err a)
  | [] => none
 else some (.ok (.mk k [] 0 []) l)
def rparT (q : Qy) (l : List (Tk × α)) : Option (PR α) := match l with
 | (.rp,_) :: l => okT l fun l => some (.ok q l)
 | (_,a) :: _ => some (.err a)
 | [] => none
def goT : Nat → Md → List (Tk × α) → Option (PR α)
 | 0,_,_ => none
 | f + 1,.unit,l => match l with
   | (.lp,_) :: l => okT l fun l => bindT (goT f .disj l) rparT
   | (.word k,a) :: l => if opersN k = 2 then some (.err a) else okT l fun l => simpT (goT f .unit) k l
   | (_,a) :: _ => some (.err a)
   | [] => none
 | f + 1,.conj,l => bindT (goT f .unit l) fun q l => goT f (.andL q) l
 | f + 1,.disj,l => bindT (goT f .conj l) fun q l => goT f (.orL q) l
 | f + 1,.andL q,l => match l with
   | (.word 10,_) :: l => okT l fun l => bindT (goT f .unit l) fun x l => goT f (.andL (.mk 10 [] 0 [q,x])) l
   | l => some (.ok q l)
 | f + 1,.orL q,l => match l with
   | (.word 11,_) :: l => okT l fun l => bindT (goT f .conj l) fun x l => goT f (.orL (.mk 11 [] 0 [q,x])) l
   | l => some (.ok q l)
def allT (l : List (Tk × α)) : Option (PR α) := okT l fun l => bindT (goT (3 * l.length + 3) .disj l) fun q l => match l with
 | (.stop,a) :: _ => some (.ok q [])
 | (_,a) :: _ => some (.err a)
 | [] => none
theorem okT_mono {l : List (Tk × α)} {K K' : List (Tk × α) → Option (PR α)} {r : PR α} (h : okT l K = some r) (hK : ∀ l r,K l = some r → K' l = some r) : okT l K' = some r := by
 cases l with
 | nil => cases h
 | cons x l =>
   obtain ⟨t,a⟩ := x
   cases t <;> first | exact h | exact hK _ _ h
theorem bindT_mono {x y : Option (PR α)} {K K' : Qy → List (Tk × α) → Option (PR α)} {r : PR α} (h : bindT x K = some r) (hx : ∀ r,x = some r → y = some r) (hK : ∀ q l r,K q l = some r → K' q l = some r) : bindT y K' = some r := by
 match x,h with
 | some (.ok q l),h => rw [hx _ rfl]; exact hK _ _ _ h
 | some (.err a),h => rw [hx _ rfl]; exact h
theorem simpT_mono {u u' : List (Tk × α) → Option (PR α)} {k : Nat} {l : List (Tk × α)} {r : PR α} (h : simpT u k l = some r) (hu : ∀ l r,u l = some r → u' l = some r) : simpT u' k l = some r := by
 unfold simpT at h ⊢
 split
 ·rename_i hk
  rw [if_pos hk] at h
  exact bindT_mono h (hu _) (fun _ _ _ h => h)
 ·rename_i hk
  rw [if_neg hk] at h
  exact h
theorem goT_succ : ∀ (f : Nat) (m : Md) (l : List (Tk × α)) (r : PR α),goT f m l = some r → goT (f + 1) m l = some r := by
 intro f
 induction f with
 | zero => intro m l r h; cases h
 | succ f ih =>
   intro m l r h
   cases m with
   | unit =>
     match l,h with
     | (.lp,a) :: l,h => exact okT_mono (l := l) (K := fun l => bindT (goT f .disj l) rparT) (K' := fun l => bindT (goT (f + 1) .disj l) rparT) h fun l r h => bindT_mono h (ih _ _) fun _ _ _ h => h
     | (.word k,a) :: l,h =>
       by_cases hk : opersN k = 2
       ·simp only [goT,if_pos hk] at h ⊢; exact h
       ·simp only [goT,if_neg hk] at h ⊢
        exact okT_mono h fun l r h => simpT_mono h fun l r h => ih _ _ _ h
     | (.stop,a) :: l,h => exact h
     | (.bad,a) :: l,h => exact h
     | (.num n,a) :: l,h => exact h
     | (.str t,a) :: l,h => exact h
     | (.rp,a) :: l,h => exact h
   | conj => exact bindT_mono (K' := fun q l => goT (f + 1) (.andL q) l) h (ih _ _) fun q l r h => ih _ _ _ h
   | disj => exact bindT_mono (K' := fun q l => goT (f + 1) (.orL q) l) h (ih _ _) fun q l r h => ih _ _ _ h
   | andL q =>
     by_cases hl : ∃ a l',l = (.word 10,a) :: l'
     ·obtain ⟨a,l',rfl⟩ := hl
      exact okT_mono (l := l') (K := fun l => bindT (goT f .unit l) fun x l => goT f (.andL (.mk 10 [] 0 [q,x])) l) (K' := fun l => bindT (goT (f + 1) .unit l) fun x l => goT (f + 1) (.andL (.mk 10 [] 0 [q,x])) l) h fun l r h => bindT_mono h (ih _ _) fun q l r h => ih _ _ _ h
     ·have e : ∀ f,goT (f + 1) (.andL q) l = some (.ok q l) := fun f => by
       unfold goT
       split
       ·rename_i a l'; exact absurd ⟨a,l',rfl⟩ hl
       ·rfl
      rw [e] at h ⊢
      exact h
   | orL q =>
     by_cases hl : ∃ a l',l = (.word 11,a) :: l'
     ·obtain ⟨a,l',rfl⟩ := hl
      exact okT_mono (l := l') (K := fun l => bindT (goT f .conj l) fun x l => goT f (.orL (.mk 11 [] 0 [q,x])) l) (K' := fun l => bindT (goT (f + 1) .conj l) fun x l => goT (f + 1) (.orL (.mk 11 [] 0 [q,x])) l) h fun l r h => bindT_mono h (ih _ _) fun q l r h => ih _ _ _ h
     ·have e : ∀ f,goT (f + 1) (.orL q) l = some (.ok q l) := fun f => by
       unfold goT
       split
       ·rename_i a l'; exact absurd ⟨a,l',rfl⟩ hl
       ·rfl
      rw [e] at h ⊢
      exact h
theorem goT_mono {f g : Nat} (hfg : f ≤ g) {m : Md} {l : List (Tk × α)} {r : PR α} (h : goT f m l = some r) : goT g m l = some r := by
 induction hfg with
 | refl => exact h
 | step _ ih => exact goT_succ _ _ _ _ ih
def mapT (g : α → β) (l : List (Tk × α)) : List (Tk × β) := l.map fun x => (x.1,g x.2)
def PR.map (g : α → β) : PR α → PR β
 | .ok q l => .ok q (mapT g l)
 | .err a => .err (g a)
end
end Qv

end

section
open Go Go.RowKit
namespace Qv
def isBl (c : UInt8) : Bool := c == 32 || c == 10
def letterB (c : UInt8) : Bool := (decide (97 ≤ c) && decide (c ≤ 122)) || (decide (48 ≤ c) && decide (c ≤ 57))
def wordsB : List Bytes := [[],[97,108,108],[110,111,110,101],[97,117,116,104,111,114],[109,101,115,115,97,103,101],[112,97,116,104],[98,101,102,111,114,101],[97,102,116,101,114],[105,100],[110,111,116],[97,110,100],[111,114],[110,101,101,100,115],[117,115,101,114,115]]
def wordB (k : Nat) : Bytes := wordsB.getD k []
def findW (w : Bytes) : Nat → List Bytes → Option Nat
 | _,[] => none
 | k,x :: l => if x = w then some k else findW w (k + 1) l
def wordIx (w : Bytes) : Option Nat := findW w 1 (wordsB.drop 1)
def atoT (s : Bytes) : Option Int := match Lib.atoiAll s with
 | .ok v => some v
 | _ => none
def numT (w : Bytes) : Option Nat := match atoT w with
 | some v => if 0 ≤ v ∧ v ≤ 1099511627776 ∧ Lib.itoa v = w then some v.toNat else none
 | none => none
def strGo : Bytes → Option (Bytes × Bytes)
 | [] => none
 | c :: r => if c = 34 then some ([],r)
   else if c = 92 then match r with
    | d :: r => if d = 34 ∨ d = 92 then (strGo r).map fun p => (d :: p.1,p.2) else none
    | [] => none
   else (strGo r).map fun p => (c :: p.1,p.2)
def runU (u : Bytes) : Tk × Bytes := match wordIx (u.takeWhile letterB) with
 | some k => (.word k,u.dropWhile letterB)
 | none => match numT (u.takeWhile letterB) with
   | some n => (.num n,u.dropWhile letterB)
   | none => (.bad,[])
def lexU (u : Bytes) : Tk × Bytes := match u with
 | [] => (.stop,[])
 | c :: r => if c = 40 then (.lp,r) else if c = 41 then (.rp,r)
   else if c = 34 then match strGo r with
    | some p => (.str p.1,p.2)
    | none => (.bad,[])
   else if letterB c = true then runU (c :: r) else (.bad,[])
def Tk.isEnd : Tk → Bool
 | .stop => true
 | .bad => true
 | _ => false
def unbl (t : Bytes) : Bytes := t.dropWhile isBl
abbrev Toks := List (Tk × (Bytes × Bytes))
def toksN : Nat → Bytes → Toks
 | 0,_ => []
 | f + 1,t => ((lexU (unbl t)).1,(unbl t,(lexU (unbl t)).2)) :: (if (lexU (unbl t)).1.isEnd = true then [] else toksN f (lexU (unbl t)).2)
def toks (t : Bytes) : Toks := toksN (t.length + 1) t
theorem strGo_lt : ∀ {r : Bytes} {p : Bytes × Bytes},strGo r = some p → p.2.length < r.length
 | [],p,h => by cases h
 | c :: r,p,h => by
   unfold strGo at h
   split at h
   ·obtain rfl := Option.some.inj h; simp
   ·split at h
    ·match r,h with
     | [],h => cases h
     | d :: r,h =>
       simp only at h
       split at h
       ·cases hq : strGo r with
        | none => rw [hq] at h; cases h
        | some q =>
          rw [hq] at h
          obtain rfl := Option.some.inj h
          have := strGo_lt hq
          simp; omega
       ·cases h
    ·cases hq : strGo r with
     | none => rw [hq] at h; cases h
     | some q =>
       rw [hq] at h
       obtain rfl := Option.some.inj h
       have := strGo_lt hq
       simp; omega
theorem dropWhile_le (p : UInt8 → Bool) : ∀ l : Bytes,(l.dropWhile p).length ≤ l.length
 | [] => Nat.le_refl _
 | c :: l => by
   rw [List.dropWhile_cons]
   split
   ·have := dropWhile_le p l; simp; omega
   ·exact Nat.le_refl _
theorem lexU_lt {u : Bytes} (h : (lexU u).1.isEnd = false) : (lexU u).2.length < u.length := by
 cases u with
 | nil => cases h
 | cons c r =>
   unfold lexU at h ⊢
   simp only at h ⊢
   split
   ·simp
   ·rename_i h1
    rw [if_neg h1] at h
    split
    ·simp
    ·rename_i h2
     rw [if_neg h2] at h
     split
     ·rename_i h3
      rw [if_pos h3] at h
      cases hs : strGo r with
      | none => rw [hs] at h; cases h
      | some p => have := strGo_lt hs; simp; omega
     ·rename_i h3
      rw [if_neg h3] at h
      split
      ·rename_i h4
       rw [if_pos h4] at h
       have hd : ((c :: r).dropWhile letterB).length < (c :: r).length := by
        rw [List.dropWhile_cons,if_pos h4]
        have := dropWhile_le letterB r
        simp; omega
       unfold runU at h ⊢
       split
       ·exact hd
       ·rename_i hw
        rw [hw] at h
        simp only at h
        split
        ·exact hd
        ·rename_i hn; rw [hn] at h; cases h
      ·rename_i h4
       rw [if_neg h4] at h
       cases h
theorem unbl_le (t : Bytes) : (unbl t).length ≤ t.length := dropWhile_le _ _
theorem toksN_more : ∀ (f : Nat) (t : Bytes),t.length < f → toksN (f + 1) t = toksN f t
 | 0,t,h => by omega
 | f + 1,t,h => by
   rw [toksN,toksN]
   congr 1
   split
   ·rfl
   ·rename_i he
    have := lexU_lt (u := unbl t) (by simpa using he)
    have := unbl_le t
    exact toksN_more f _ (by omega)
theorem toksN_eq {f : Nat} {t : Bytes} (h : t.length < f) : toksN f t = toks t := by
 unfold toks
 obtain ⟨k,rfl⟩ : ∃ k,f = t.length + 1 + k := ⟨f - (t.length + 1),by omega⟩
 clear h
 induction k with
 | zero => rfl
 | succ k ih => rw [← ih,← Nat.add_assoc]; exact toksN_more _ _ (by omega)
theorem toks_eq (t : Bytes) : toks t = ((lexU (unbl t)).1,(unbl t,(lexU (unbl t)).2)) :: (if (lexU (unbl t)).1.isEnd = true then [] else toks (lexU (unbl t)).2) := by
 show toksN (t.length + 1) t = _
 rw [toksN]
 congr 1
 split
 ·rfl
 ·rename_i he
  have := lexU_lt (u := unbl t) (by simpa using he)
  have := unbl_le t
  exact toksN_eq (by omega)
inductive TokL {α : Type} : List (Tk × α) → Prop
 | last (t : Tk) (a : α) : t.isEnd = true → TokL [(t,a)]
 | cons (t : Tk) (a : α) (l : List (Tk × α)) : t.isEnd = false → TokL l → TokL ((t,a) :: l)
theorem toks_ok (n : Nat) : ∀ t : Bytes,t.length ≤ n → TokL (toks t) := by
 induction n with
 | zero =>
   intro t h
   have : t = [] := List.length_eq_zero_iff.1 (by omega)
   subst this
   exact .last _ _ rfl
 | succ n ih =>
   intro t h
   rw [toks_eq]
   split
   ·rename_i he; exact .last _ _ he
   ·rename_i he
    have he : (lexU (unbl t)).1.isEnd = false := by simpa using he
    have := lexU_lt he
    have := unbl_le t
    exact .cons _ _ _ he (ih _ (by omega))
theorem TokL.ne {α : Type} {l : List (Tk × α)} (h : TokL l) : l ≠ [] := by cases h <;> simp
theorem TokL.tail {α : Type} {t : Tk} {a : α} {l : List (Tk × α)} (h : TokL ((t,a) :: l)) (ht : t.isEnd = false) : TokL l := by
 cases h with
 | last _ _ h => rw [h] at ht; cases ht
 | cons _ _ _ _ h => exact h
def PRok {α : Type} (n : Nat) : Option (PR α) → Prop
 | none => False
 | some (.err _) => True
 | some (.ok _ l) => TokL l ∧ l.length ≤ n
theorem PRok.mono {α : Type} {n m : Nat} {r : Option (PR α)} (h : PRok n r) (hm : n ≤ m) : PRok m r := by
 match r,h with
 | some (.err _),_ => trivial
 | some (.ok _ l),⟨h1,h2⟩ => exact ⟨h1,by omega⟩
theorem okT_ok {α : Type} {n : Nat} {l : List (Tk × α)} {K : List (Tk × α) → Option (PR α)} (h : TokL l) (hK : PRok n (K l)) : PRok n (okT l K) := by
 match l,h with
 | (t,a) :: l,h => cases t <;> first | exact hK | trivial
theorem bindT_ok {α : Type} {n m : Nat} {x : Option (PR α)} {K : Qy → List (Tk × α) → Option (PR α)} (h : PRok n x) (hK : ∀ q l,TokL l → l.length ≤ n → PRok m (K q l)) : PRok m (bindT x K) := by
 match x,h with
 | some (.err _),_ => trivial
 | some (.ok q l),⟨h1,h2⟩ => exact hK q l h1 h2
def Md.need : Md → Nat → Nat
 | .unit,n => 3 * n + 1
 | .conj,n => 3 * n + 2
 | .disj,n => 3 * n + 3
 | .andL _,n => 3 * n + 1
 | .orL _,n => 3 * n + 1
def Md.left : Md → Nat → Nat
 | .unit,n => n - 1
 | .conj,n => n - 1
 | .disj,n => n - 1
 | .andL _,n => n
 | .orL _,n => n
theorem rparT_ok {α : Type} {n : Nat} {q : Qy} {l : List (Tk × α)} (h : TokL l) (hn : l.length ≤ n + 1) : PRok n (rparT q l) := by
 match l,h with
 | (t,a) :: l,h =>
   cases t
   case rp => exact okT_ok (K := fun l => some (.ok q l)) (h.tail rfl) ⟨h.tail rfl,by simpa using hn⟩
   all_goals trivial
theorem simpT_ok {α : Type} {n : Nat} {u : List (Tk × α) → Option (PR α)} {k : Nat} {l : List (Tk × α)} (h : TokL l) (hn : l.length ≤ n) (hu : PRok n (u l)) : PRok n (simpT u k l) := by
 unfold simpT
 split
 ·exact bindT_ok hu fun q l h1 h2 => ⟨h1,h2⟩
 ·split
  ·match l,h,hn with
   | (t,a) :: l,h,hn =>
     cases t
     case str t => exact okT_ok (h.tail rfl) ⟨h.tail rfl,by simp at hn; omega⟩
     all_goals trivial
  ·split
   ·match l,h,hn with
    | (t,a) :: l,h,hn =>
      cases t
      case num t => exact okT_ok (h.tail rfl) ⟨h.tail rfl,by simp at hn; omega⟩
      all_goals trivial
   ·exact ⟨h,hn⟩
theorem goT_ok {α : Type} : ∀ (f : Nat) (m : Md) (l : List (Tk × α)),TokL l → m.need l.length ≤ f → PRok (m.left l.length) (goT f m l) := by
 intro f
 induction f with
 | zero => intro m l _ h; cases m <;> simp [Md.need] at h
 | succ f ih =>
   intro m l hl h
   cases m with
   | unit =>
     match l,hl,h with
     | (t,a) :: l,hl,h =>
       simp only [Md.need,List.length_cons] at h
       simp only [Md.left,List.length_cons,Nat.add_sub_cancel]
       cases t
       case lp =>
        have ht := hl.tail rfl
        have := List.length_pos_iff.2 ht.ne
        refine okT_ok (K := fun l => bindT (goT f .disj l) rparT) ht (bindT_ok (K := rparT) (ih .disj l ht (by simp only [Md.need]; omega)) fun q l' h1 h2 => (rparT_ok h1 ?_))
        simp only [Md.left] at h2; omega
       case word k =>
        have ht := hl.tail rfl
        simp only [goT]
        split
        ·trivial
        ·refine okT_ok ht (simpT_ok ht (Nat.le_refl _) ((ih .unit l ht (by simp only [Md.need]; omega)).mono ?_))
         simp only [Md.left]; omega
       all_goals trivial
   | conj =>
     simp only [Md.need] at h
     have := List.length_pos_iff.2 hl.ne
     refine bindT_ok (ih .unit l hl (by simp only [Md.need]; omega)) fun q l' h1 h2 => (ih (.andL q) l' h1 ?_).mono ?_
     ·simp only [Md.need,Md.left] at h2 ⊢; omega
     ·simp only [Md.left] at h2 ⊢; omega
   | disj =>
     simp only [Md.need] at h
     have := List.length_pos_iff.2 hl.ne
     refine bindT_ok (ih .conj l hl (by simp only [Md.need]; omega)) fun q l' h1 h2 => (ih (.orL q) l' h1 ?_).mono ?_
     ·simp only [Md.need,Md.left] at h2 ⊢; omega
     ·simp only [Md.left] at h2 ⊢; omega
   | andL q =>
     simp only [Md.need] at h
     by_cases he : ∃ a l',l = (.word 10,a) :: l'
     ·obtain ⟨a,l',rfl⟩ := he
      have ht := hl.tail rfl
      have := List.length_pos_iff.2 ht.ne
      simp only [List.length_cons] at h
      refine okT_ok (K := fun l => bindT (goT f .unit l) fun x l => goT f (.andL (.mk 10 [] 0 [q,x])) l) ht (bindT_ok (K := fun x l => goT f (.andL (.mk 10 [] 0 [q,x])) l) (ih .unit l' ht (by simp only [Md.need]; omega)) fun x l'' h1 h2 => (ih (.andL _) l'' h1 ?_).mono ?_)
      ·simp only [Md.need,Md.left] at h2 ⊢; omega
      ·simp only [Md.left,List.length_cons] at h2 ⊢; omega
     ·have e : goT (f + 1) (.andL q) l = some (.ok q l) := by
       unfold goT
       split
       ·rename_i a l'; exact absurd ⟨a,l',rfl⟩ he
       ·rfl
      rw [e]
      exact ⟨hl,Nat.le_refl _⟩
   | orL q =>
     simp only [Md.need] at h
     by_cases he : ∃ a l',l = (.word 11,a) :: l'
     ·obtain ⟨a,l',rfl⟩ := he
      have ht := hl.tail rfl
      have := List.length_pos_iff.2 ht.ne
      simp only [List.length_cons] at h
      refine okT_ok (K := fun l => bindT (goT f .conj l) fun x l => goT f (.orL (.mk 11 [] 0 [q,x])) l) ht (bindT_ok (K := fun x l => goT f (.orL (.mk 11 [] 0 [q,x])) l) (ih .conj l' ht (by simp only [Md.need]; omega)) fun x l'' h1 h2 => (ih (.orL _) l'' h1 ?_).mono ?_)
      ·simp only [Md.need,Md.left] at h2 ⊢; omega
      ·simp only [Md.left,List.length_cons] at h2 ⊢; omega
     ·have e : goT (f + 1) (.orL q) l = some (.ok q l) := by
       unfold goT
       split
       ·rename_i a l'; exact absurd ⟨a,l',rfl⟩ he
       ·rfl
      rw [e]
      exact ⟨hl,Nat.le_refl _⟩
theorem allT_ok {α : Type} {l : List (Tk × α)} (h : TokL l) : allT l ≠ none := by
 have key : ∀ n,PRok n (goT (3 * l.length + 3) .disj l) → bindT (goT (3 * l.length + 3) .disj l) (fun q l => match l with
  | (.stop,a) :: _ => some (PR.ok q [])
  | (_,a) :: _ => some (.err a)
  | [] => none) ≠ none := fun n hp => by
  match hq : goT (3 * l.length + 3) .disj l,hp with
  | some (.err a),_ => simp [bindT]
  | some (.ok q l'),⟨h1,h2⟩ =>
    match l',h1 with
    | (t,a) :: l',h1 => cases t <;> simp [bindT]
 have := goT_ok (3 * l.length + 3) .disj l h (Nat.le_refl _)
 match l,h with
 | (t,a) :: l,h =>
   unfold allT
   cases t <;> first | exact key _ this | simp [okT]
end Qv

end

section
open Go Go.RowKit
namespace Qv
def sepB (z : Bytes) : Prop := ∀ c,z.head? = some c → letterB c = false
def Tk.isRun : Tk → Bool
 | .word _ => true
 | .num _ => true
 | _ => false
theorem strGo_cons (c : UInt8) (r : Bytes) : strGo (c :: r) = (if c = 34 then some ([],r)
 else if c = 92 then match r with
  | d :: r => if d = 34 ∨ d = 92 then (strGo r).map fun p => (d :: p.1,p.2) else none
  | [] => none
 else (strGo r).map fun p => (c :: p.1,p.2)) := by
 rw [strGo.eq_def]
 rfl
theorem strGo_local : ∀ {r : Bytes} {p : Bytes × Bytes},strGo r = some p → ∃ c,r = c ++ p.2 ∧ ∀ z,strGo (c ++ z) = some (p.1,z)
 | [],p,h => by cases h
 | c :: r,p,h => by
   rw [strGo_cons] at h
   split at h
   ·rename_i h1
    obtain rfl := Option.some.inj h
    exact ⟨[c],rfl,fun z => by rw [List.singleton_append,strGo_cons,if_pos h1]⟩
   ·rename_i h1
    split at h
    ·rename_i h2
     match r,h with
     | [],h => cases h
     | d :: r,h =>
       simp only at h
       split at h
       ·rename_i h3
        cases hq : strGo r with
        | none => rw [hq] at h; cases h
        | some q =>
          rw [hq] at h
          obtain rfl := Option.some.inj h
          obtain ⟨e,h4,h5⟩ := strGo_local hq
          refine ⟨c :: d :: e,by rw [List.cons_append,List.cons_append,← h4],fun z => ?_⟩
          rw [List.cons_append,List.cons_append,strGo_cons]
          rw [if_neg h1,if_pos h2]
          simp only
          rw [if_pos h3,h5]
          rfl
       ·cases h
    ·rename_i h2
     cases hq : strGo r with
     | none => rw [hq] at h; cases h
     | some q =>
       rw [hq] at h
       obtain rfl := Option.some.inj h
       obtain ⟨e,h4,h5⟩ := strGo_local hq
       refine ⟨c :: e,by rw [List.cons_append,← h4],fun z => ?_⟩
       rw [List.cons_append,strGo_cons,if_neg h1,if_neg h2,h5]
       rfl
theorem take_sep {w z : Bytes} (hw : ∀ c,c ∈ w → letterB c = true) (hz : sepB z) : (w ++ z).takeWhile letterB = w ∧ (w ++ z).dropWhile letterB = z := by
 induction w with
 | nil =>
   cases z with
   | nil => exact ⟨rfl,rfl⟩
   | cons c z =>
     have := hz c rfl
     simp [this]
 | cons c w ih =>
   obtain ⟨h1,h2⟩ := ih fun d hd => hw d (List.mem_cons_of_mem _ hd)
   have := hw c List.mem_cons_self
   simp only [List.cons_append,List.takeWhile_cons,List.dropWhile_cons,this,if_true,h1,h2,and_self]
theorem drop_sep (u : Bytes) : sepB (u.dropWhile letterB) := by
 intro c hc
 induction u with
 | nil => cases hc
 | cons d u ih =>
   rw [List.dropWhile_cons] at hc
   split at hc
   ·exact ih hc
   ·rename_i h
    obtain rfl := Option.some.inj hc
    simpa using h
theorem takeAllT (u : Bytes) : ∀ c,c ∈ u.takeWhile letterB → letterB c = true := by
 induction u with
 | nil => intro c h; cases h
 | cons d u ih =>
   intro c h
   rw [List.takeWhile_cons] at h
   split at h
   ·rename_i hd
    rcases List.mem_cons.1 h with rfl | h
    ·exact hd
    ·exact ih c h
   ·cases h
theorem lexU_local {u : Bytes} (he : (lexU u).1.isEnd = false) : ∃ c,c ≠ [] ∧ u = c ++ (lexU u).2 ∧ ((lexU u).1.isRun = true → sepB (lexU u).2) ∧ ∀ z,((lexU u).1.isRun = true → sepB z) → lexU (c ++ z) = ((lexU u).1,z) := by
 cases u with
 | nil => cases he
 | cons c r =>
   have hx : ∀ r,lexU (c :: r) = (if c = 40 then (.lp,r) else if c = 41 then (.rp,r)
    else if c = 34 then (match strGo r with
     | some p => (.str p.1,p.2)
     | none => (.bad,[]))
    else if letterB c = true then runU (c :: r) else (.bad,[])) := fun _ => rfl
   by_cases h1 : c = 40
   ·refine ⟨[c],by simp,?_,?_,fun z _ => ?_⟩
    ·rw [hx,if_pos h1]; rfl
    ·rw [hx,if_pos h1]; intro h; cases h
    ·rw [List.singleton_append,hx,hx,if_pos h1,if_pos h1]
   by_cases h2 : c = 41
   ·refine ⟨[c],by simp,?_,?_,fun z _ => ?_⟩
    ·rw [hx,if_neg h1,if_pos h2]; rfl
    ·rw [hx,if_neg h1,if_pos h2]; intro h; cases h
    ·rw [List.singleton_append,hx,hx,if_neg h1,if_neg h1,if_pos h2,if_pos h2]
   by_cases h3 : c = 34
   ·have e : ∀ r,lexU (c :: r) = (match strGo r with
     | some p => (.str p.1,p.2)
     | none => (.bad,[])) := fun r => by rw [hx,if_neg h1,if_neg h2,if_pos h3]
    cases hs : strGo r with
    | none => rw [e,hs] at he; cases he
    | some p =>
      obtain ⟨d,q1,q2⟩ := strGo_local hs
      have e2 : lexU (c :: r) = (.str p.1,p.2) := by rw [e,hs]
      rw [e2]
      refine ⟨c :: d,by simp,by rw [List.cons_append,← q1],(fun h => by cases h),fun z _ => ?_⟩
      rw [List.cons_append,e,q2]
   by_cases h4 : letterB c = true
   ·have e : ∀ r,lexU (c :: r) = runU (c :: r) := fun r => by rw [hx,if_neg h1,if_neg h2,if_neg h3,if_pos h4]
    rw [e] at he ⊢
    have hw : (c :: r).takeWhile letterB ≠ [] := by rw [List.takeWhile_cons,if_pos h4]; simp
    have hsplit : (c :: r) = (c :: r).takeWhile letterB ++ (c :: r).dropWhile letterB := (List.takeWhile_append_dropWhile).symm
    have hrun : (runU (c :: r)).2 = (c :: r).dropWhile letterB := by
     unfold runU at he ⊢
     split
     ·rfl
     ·rename_i hn
      rw [hn] at he
      simp only at he
      split
      ·rfl
      ·rename_i hn2; rw [hn2] at he; cases he
    refine ⟨(c :: r).takeWhile letterB,hw,by rw [hrun]; exact hsplit,fun _ => by rw [hrun]; exact drop_sep _,fun z hz => ?_⟩
    have hir : (runU (c :: r)).1.isRun = true := by
     unfold runU at he ⊢
     split
     ·rfl
     ·rename_i hn
      rw [hn] at he
      simp only at he
      split
      ·rfl
      ·rename_i hn2; rw [hn2] at he; cases he
    obtain ⟨t1,t2⟩ := take_sep (takeAllT (c :: r)) (hz hir)
    have e3 : lexU ((c :: r).takeWhile letterB ++ z) = runU ((c :: r).takeWhile letterB ++ z) := by
     rw [List.takeWhile_cons,if_pos h4,List.cons_append,e]
    rw [e3]
    unfold runU at he ⊢
    rw [t1,t2]
    split
    ·rfl
    ·rename_i hn
     rw [hn] at he
     simp only at he
     split
     ·rfl
     ·rename_i hn2; rw [hn2] at he; cases he
   ·rw [hx,if_neg h1,if_neg h2,if_neg h3,if_neg h4] at he
    cases he
theorem unbl_id {c z : Bytes} (hc : c ≠ []) (h : ∀ d,c.head? = some d → isBl d = false) : unbl (c ++ z) = c ++ z := by
 cases c with
 | nil => exact absurd rfl hc
 | cons d c =>
   have := h d rfl
   simp [unbl,this]
theorem unbl_app {b z : Bytes} (hb : b.all isBl = true) : unbl (b ++ z) = unbl z := by
 induction b with
 | nil => rfl
 | cons c b ih =>
   simp only [List.all_cons,Bool.and_eq_true] at hb
   rw [unbl,List.cons_append,List.dropWhile_cons,if_pos hb.1]
   exact ih hb.2
theorem split_bl (t : Bytes) : ∃ b : Bytes,b.all isBl = true ∧ t = b ++ unbl t := by
 refine ⟨t.takeWhile isBl,?_,(List.takeWhile_append_dropWhile).symm⟩
 rw [List.all_eq_true]
 intro c hc
 induction t with
 | nil => cases hc
 | cons d t ih =>
   rw [List.takeWhile_cons] at hc
   split at hc
   ·rename_i hd
    rcases List.mem_cons.1 hc with rfl | hc
    ·exact hd
    ·exact ih hc
   ·cases hc
theorem toks_bl {b z : Bytes} (hb : b.all isBl = true) : toks (b ++ z) = toks z := by
 rw [toks_eq,toks_eq z,unbl_app hb]
def runEnd : List (Tk × Bytes) → Bool
 | [] => false
 | [x] => x.1.isRun
 | _ :: x :: l => runEnd (x :: l)
def Seg (x : Bytes) (ps : List (Tk × Bytes)) : Prop :=
 ∀ z,(runEnd ps = true → sepB z) → ∃ p : Toks,toks (x ++ z) = p ++ toks z ∧ p.map (fun e => (e.1,e.2.1)) = ps.map fun q => (q.1,q.2 ++ z)
theorem Seg.bl {b : Bytes} (hb : b.all isBl = true) : Seg b [] := fun z _ => ⟨[],toks_bl hb,rfl⟩
theorem runEnd_app {a b : List (Tk × Bytes)} (hb : b ≠ []) : runEnd (a ++ b) = runEnd b := by
 induction a with
 | nil => rfl
 | cons x a ih =>
   cases hc : a ++ b with
   | nil => simp at hc; exact absurd hc.2 hb
   | cons y l =>
     rw [List.cons_append,hc]
     show runEnd (y :: l) = _
     rw [← hc,ih]
theorem Seg.append {x y : Bytes} {a b : List (Tk × Bytes)} (h1 : Seg x a) (h2 : Seg y b) (hs : runEnd a = true → b ≠ [] ∧ ∀ z,(runEnd b = true → sepB z) → sepB (y ++ z)) : Seg (x ++ y) ((a.map fun q => (q.1,q.2 ++ y)) ++ b) := by
 intro z hz
 have hz' : runEnd b = true → sepB z := fun h => hz (by
  cases b with
  | nil => cases h
  | cons q b => rw [runEnd_app (by simp)]; exact h)
 obtain ⟨p2,e1,e2⟩ := h2 z hz'
 obtain ⟨p1,e3,e4⟩ := h1 (y ++ z) (fun h => (hs h).2 z hz')
 refine ⟨p1 ++ p2,by rw [List.append_assoc,e3,e1,List.append_assoc],?_⟩
 rw [List.map_append,e4,e2,List.map_append,List.map_map]
 congr 1
 apply List.map_congr_left
 intro q _
 simp
theorem Seg.one {u : Bytes} (hu : ∀ d,u.head? = some d → isBl d = false) (he : (lexU u).1.isEnd = false) (hr : (lexU u).2 = []) : Seg u [((lexU u).1,u)] := by
 obtain ⟨c,h1,h2,h3,h4⟩ := lexU_local he
 rw [hr,List.append_nil] at h2
 subst h2
 intro z hz
 have e := h4 z hz
 refine ⟨[((lexU u).1,(u ++ z,z))],?_,rfl⟩
 rw [toks_eq,unbl_id h1 hu,e]
 simp only [he]
 rfl
end Qv

end

section
open Go Go.RowKit
namespace Qv
theorem dec_digits (u : Nat) : ∀ c,c ∈ Lib.decDigits u → 48 ≤ c.toNat ∧ c.toNat ≤ 57 := by
 induction u using Nat.strongRecOn with
 | _ u ih =>
   intro c hc
   rw [Lib.decDigits] at hc
   split at hc
   ·rename_i h
    obtain rfl := List.mem_singleton.1 hc
    have : (UInt8.ofNat (48 + u)).toNat = 48 + u := by simp; omega
    omega
   ·rcases List.mem_append.1 hc with hc | hc
    ·exact ih _ (by omega) c hc
    ·obtain rfl := List.mem_singleton.1 hc
     have : (UInt8.ofNat (48 + u % 10)).toNat = 48 + u % 10 := by simp; omega
     omega
theorem dec_ne (u : Nat) : Lib.decDigits u ≠ [] := by
 rw [Lib.decDigits]
 split <;> simp
theorem parse_app (l1 l2 : Bytes) : ∀ (acc a : Nat),Lib.parseUint10 acc l1 = .ok a → Lib.parseUint10 acc (l1 ++ l2) = Lib.parseUint10 a l2 := by
 induction l1 with
 | nil =>
   intro acc a h
   unfold Lib.parseUint10 at h
   injection h with h
   subst h
   rfl
 | cons c l ih =>
   intro acc a h
   rw [List.cons_append,Lib.parseUint10]
   rw [Lib.parseUint10] at h
   split at h
   ·rename_i h1
    rw [if_pos h1]
    split at h
    ·cases h
    ·rename_i h2
     rw [if_neg h2]
     split at h
     ·cases h
     ·rename_i h3
      rw [if_neg h3]
      exact ih _ _ h
   ·cases h
theorem parse_dec (u : Nat) (hu : u < 1000000000000000000) : Lib.parseUint10 0 (Lib.decDigits u) = .ok u := by
 induction u using Nat.strongRecOn with
 | _ u ih =>
   have one : ∀ (a d : Nat),d < 10 → a < 100000000000000000 → Lib.parseUint10 a [UInt8.ofNat (48 + d)] = .ok (a * 10 + d) := fun a d hd ha => by
    have : (UInt8.ofNat (48 + d)).toNat = 48 + d := by simp; omega
    rw [Lib.parseUint10,this,if_pos (by omega),if_neg (by omega),if_neg (by omega)]
    have e : 48 + d - 48 = d := by omega
    rw [e]
    rfl
   rw [Lib.decDigits]
   split
   ·rename_i h
    have := one 0 u h (by omega)
    simpa using this
   ·rename_i h
    rw [parse_app _ _ _ _ (ih (u / 10) (by omega) (by omega)),one (u / 10) (u % 10) (by omega) (by omega)]
    congr 1; omega
theorem atoT_itoa (v : Int) (h0 : 0 ≤ v) (h1 : v < 1000000000000000000) : atoT (Lib.itoa v) = some v := by
 obtain ⟨u,rfl⟩ := Int.eq_ofNat_of_zero_le h0
 have hi : Lib.itoa (u : Int) = Lib.decDigits u := by unfold Lib.itoa; rw [if_neg (by omega),Int.toNat_natCast]
 rw [hi]
 have hp := parse_dec u (by omega)
 have hd := dec_digits u
 cases hl : Lib.decDigits u with
 | nil => exact absurd hl (dec_ne u)
 | cons c r =>
   rw [hl] at hp hd
   have hc := hd c (List.mem_cons_self ..)
   have : Lib.atoiAll (c :: r) = .ok (u : Int) := by
    unfold Lib.atoiAll
    simp only
    rw [if_neg (by omega)]
    unfold Lib.parseMag
    rw [if_neg (by simp),hp]
    simp only
    rw [if_neg (by omega),if_neg (by omega),if_neg (by omega)]
   unfold atoT
   rw [this]
theorem itoa_digits (v : Int) (h0 : 0 ≤ v) : ∀ c,c ∈ Lib.itoa v → 48 ≤ c.toNat ∧ c.toNat ≤ 57 := by
 unfold Lib.itoa
 rw [if_neg (by omega)]
 exact dec_digits _
theorem numT_itoa (n : Nat) (h : n ≤ 1099511627776) : numT (Lib.itoa (n : Int)) = some n := by
 unfold numT
 rw [atoT_itoa _ (by omega) (by omega)]
 simp only
 rw [if_pos ⟨by omega,by omega,trivial⟩,Int.toNat_natCast]
theorem itoa_ne (n : Nat) : Lib.itoa (n : Int) ≠ [] := by
 unfold Lib.itoa
 rw [if_neg (by omega)]
 exact dec_ne _
theorem itoa_letter (n : Nat) : ∀ c,c ∈ Lib.itoa (n : Int) → letterB c = true := fun c hc => by
 have := itoa_digits (n : Int) (by omega) c hc
 simp only [letterB,Bool.or_eq_true,Bool.and_eq_true,decide_eq_true_eq]
 right
 exact ⟨UInt8.le_iff_toNat_le.2 this.1,UInt8.le_iff_toNat_le.2 this.2⟩
def escQ : Bytes → Bytes
 | [] => []
 | c :: t => if c = 34 ∨ c = 92 then 92 :: c :: escQ t else c :: escQ t
def quoteQ (t : Bytes) : Bytes := [34] ++ escQ t ++ [34]
mutual
def textQ : Qy → Bytes
 | .mk k t n l =>
   if textualN k.toNat = true then wordB k.toNat ++ [32] ++ quoteQ t
   else if numericN k.toNat = true then wordB k.toNat ++ [32] ++ Lib.itoa n
   else if opersN k.toNat = 1 then wordB k.toNat ++ [32] ++ (textQL l).headD []
   else if opersN k.toNat = 2 then [40] ++ (textQL l).headD [] ++ [32] ++ wordB k.toNat ++ [32] ++ ((textQL l).drop 1).headD [] ++ [41]
   else wordB k.toNat
def textQL : List Qy → List Bytes
 | [] => []
 | q :: l => textQ q :: textQL l
end
mutual
def tkQ : Qy → List Tk
 | .mk k t n l =>
   if textualN k.toNat = true then [.word k.toNat,.str t]
   else if numericN k.toNat = true then [.word k.toNat,.num n.toNat]
   else if opersN k.toNat = 1 then .word k.toNat :: (tkQL l).headD []
   else if opersN k.toNat = 2 then .lp :: ((tkQL l).headD [] ++ .word k.toNat :: (((tkQL l).drop 1).headD [] ++ [.rp]))
   else [.word k.toNat]
def tkQL : List Qy → List (List Tk)
 | [] => []
 | q :: l => tkQ q :: tkQL l
end
inductive VQ : Qy → Prop
 | plain (k : Nat) : (k = 1 ∨ k = 2) → VQ (.mk k [] 0 [])
 | text (k : Nat) (t : Bytes) : textualN k = true → VQ (.mk k t 0 [])
 | num (k n : Nat) : numericN k = true → n ≤ 1099511627776 → VQ (.mk k [] n [])
 | one (k : Nat) (q : Qy) : opersN k = 1 → VQ q → VQ (.mk k [] 0 [q])
 | two (k : Nat) (p q : Qy) : opersN k = 2 → VQ p → VQ q → VQ (.mk k [] 0 [p,q])
theorem opsN_nat (k : Nat) : opsN (k : Int) = opersN k := by
 unfold opsN opersN
 have h : ∀ m : Nat,((k : Int) = (m : Int)) ↔ k = m := fun m => by omega
 have e9 := h 9; have e10 := h 10; have e11 := h 11; have e12 := h 12; have e13 := h 13
 simp only [show ((9 : Nat) : Int) = 9 from rfl,show ((10 : Nat) : Int) = 10 from rfl,show ((11 : Nat) : Int) = 11 from rfl,show ((12 : Nat) : Int) = 12 from rfl,show ((13 : Nat) : Int) = 13 from rfl] at e9 e10 e11 e12 e13
 simp only [e9,e10,e11,e12,e13]
theorem vq_of (G : Bytes → Bool) (q : Qy) : allE G q = 0 → VQ q := by
 refine Qy.ind (P := fun q => allE G q = 0 → VQ q) ?_ q
 intro k t n l ih h
 obtain ⟨hp,hl⟩ := allE_zero.1 h
 have hl : ∀ x,x ∈ l → VQ x := fun x hx => ih x hx (hl x hx)
 obtain ⟨h1,h2,h3,h4⟩ := part_len hp
 obtain ⟨k,rfl⟩ := Int.eq_ofNat_of_zero_le (show 0 ≤ k by omega)
 rw [opsN_nat] at h1
 unfold partF at hp
 rw [if_neg (by omega)] at hp
 split at hp
 ·cases hp
 rename_i hq
 split at hp
 ·cases hp
 split at hp
 ·cases hp
 split at hp
 ·cases hp
 split at hp
 ·cases hp
 rename_i hr
 have hw : ∀ b,wordedF (k : Int) = b → textualN k = b := fun b hb => by
  rw [← hb]
  unfold wordedF textualN
  rw [Bool.eq_iff_iff]
  simp only [Bool.or_eq_true,decide_eq_true_eq]
  omega
 have hn : ∀ b,numberedF (k : Int) = b → numericN k = b := fun b hb => by
  rw [← hb]
  unfold numberedF numericN
  rw [Bool.eq_iff_iff]
  simp only [Bool.or_eq_true,decide_eq_true_eq]
  omega
 have ht : textualN k = false → t = [] := fun hf => by
  apply Classical.byContradiction
  intro hne
  refine hq (.inl ⟨hne,?_⟩)
  cases hb : wordedF (k : Int) with
  | false => rfl
  | true => rw [hw _ hb] at hf; cases hf
 have hz : numericN k = false → n = 0 := fun hf => by
  apply Classical.byContradiction
  intro hne
  refine hq (.inr (.inl ⟨hne,?_⟩))
  cases hb : numberedF (k : Int) with
  | false => rfl
  | true => rw [hn _ hb] at hf; cases hf
 have ho : opersN k = 0 → l = [] := fun h => List.length_eq_zero_iff.1 (by omega)
 have hk13 : k ≤ 13 := by omega
 have hk1 : 1 ≤ k := by omega
 by_cases c1 : textualN k = true
 ·have hk : k = 3 ∨ k = 4 ∨ k = 5 ∨ k = 8 := by simpa [textualN] using c1
  rw [ho (by unfold opersN; rw [if_neg (by omega),if_neg (by omega)]),hz (by simp [numericN]; omega)]
  exact .text k t c1
 ·have c1 : textualN k = false := by simpa using c1
  rw [ht c1]
  by_cases c2 : numericN k = true
  ·have hk : k = 6 ∨ k = 7 := by simpa [numericN] using c2
   rw [ho (by unfold opersN; rw [if_neg (by omega),if_neg (by omega)])]
   obtain ⟨n,rfl⟩ := Int.eq_ofNat_of_zero_le (show 0 ≤ n by omega)
   exact .num k n c2 (by omega)
  ·have c2 : numericN k = false := by simpa using c2
   rw [hz c2]
   by_cases c3 : opersN k = 1
   ·rw [c3] at h1
    match l,h1,hl with
    | [q],_,hl => exact .one k q c3 (hl q (by simp))
   ·by_cases c4 : opersN k = 2
    ·rw [c4] at h1
     match l,h1,hl with
     | [p,q],_,hl => exact .two k p q c4 (hl p (by simp)) (hl q (by simp))
    ·have hk : k = 1 ∨ k = 2 := by
      have a1 : ¬ (k = 9 ∨ k = 12 ∨ k = 13) := fun h => c3 (by unfold opersN; rw [if_pos h])
      have a2 : ¬ (k = 10 ∨ k = 11) := fun h => c4 (by unfold opersN; rw [if_neg a1,if_pos h])
      have a3 : ¬ (k = 3 ∨ k = 4 ∨ k = 5 ∨ k = 8) := by simpa [textualN] using c1
      have a4 : ¬ (k = 6 ∨ k = 7) := by simpa [numericN] using c2
      omega
     rw [ho (by unfold opersN; rw [if_neg (by omega),if_neg (by omega)])]
     exact .plain k hk
theorem strGo_esc : ∀ (t r : Bytes),strGo (escQ t ++ 34 :: r) = some (t,r)
 | [],r => by
   rw [escQ,List.nil_append,strGo_cons,if_pos rfl]
 | c :: t,r => by
   unfold escQ
   by_cases h : c = 34 ∨ c = 92
   ·rw [if_pos h,List.cons_append,List.cons_append,strGo_cons,if_neg (by decide),if_pos rfl]
    simp only
    rw [if_pos h,strGo_esc t r]
    rfl
   ·rw [if_neg h,List.cons_append,strGo_cons,if_neg (fun e => h (.inl e)),if_neg (fun e => h (.inr e)),strGo_esc t r]
    rfl
theorem Seg.tok {u : Bytes} {k : Tk} (hu : ∀ d,u.head? = some d → isBl d = false) (he : k.isEnd = false) (h : lexU u = (k,[])) : Seg u [(k,u)] := by
 have := Seg.one (u := u) hu (by rw [h]; exact he) (by rw [h])
 rw [h] at this
 exact this
theorem wordB_ok : ∀ k,1 ≤ k → k ≤ 13 → wordB k ≠ [] ∧ (∀ c,c ∈ wordB k → letterB c = true) ∧ wordIx (wordB k) = some k := by
 intro k h1 h2
 have : ∀ k : Fin 14,1 ≤ k.val → wordB k.val ≠ [] ∧ (∀ c,c ∈ wordB k.val → letterB c = true) ∧ wordIx (wordB k.val) = some k.val := by decide +kernel
 exact this ⟨k,by omega⟩ h1
theorem letter_head {u : Bytes} (h : ∀ c,c ∈ u → letterB c = true) : ∀ d,u.head? = some d → isBl d = false := fun d hd => by
 have h1 := h d (List.mem_of_mem_head? hd)
 cases hb : isBl d with
 | false => rfl
 | true =>
   simp only [isBl,Bool.or_eq_true,beq_iff_eq] at hb
   rcases hb with rfl | rfl
   ·revert h1; decide
   ·revert h1; decide
theorem lexU_run {u : Bytes} (hne : u ≠ []) (h : ∀ c,c ∈ u → letterB c = true) : lexU u = runU u := by
 cases u with
 | nil => exact absurd rfl hne
 | cons c r =>
   have hc := h c List.mem_cons_self
   have : lexU (c :: r) = (if c = 40 then (.lp,r) else if c = 41 then (.rp,r)
    else if c = 34 then (match strGo r with
     | some p => (.str p.1,p.2)
     | none => (.bad,[]))
    else if letterB c = true then runU (c :: r) else (.bad,[])) := rfl
   rw [this,if_neg (by rintro rfl; revert hc; decide),if_neg (by rintro rfl; revert hc; decide),if_neg (by rintro rfl; revert hc; decide),if_pos hc]
theorem take_self {u : Bytes} (h : ∀ c,c ∈ u → letterB c = true) : u.takeWhile letterB = u ∧ u.dropWhile letterB = [] := by
 have := take_sep (w := u) (z := []) h (fun c hc => by cases hc)
 simpa using this
theorem seg_word (k : Nat) (h1 : 1 ≤ k) (h2 : k ≤ 13) : Seg (wordB k) [(.word k,wordB k)] := by
 obtain ⟨a,b,c⟩ := wordB_ok k h1 h2
 refine Seg.tok (letter_head b) rfl ?_
 rw [lexU_run a b]
 unfold runU
 rw [(take_self b).1,c,(take_self b).2]
theorem digits_noword {w : Bytes} (hne : w ≠ []) (hd : ∀ c,c ∈ w → 48 ≤ c.toNat ∧ c.toNat ≤ 57) : wordIx w = none := by
 have key : ∀ k : Fin 14,1 ≤ k.val → ∀ c,c ∈ wordB k.val → ¬ (48 ≤ c.toNat ∧ c.toNat ≤ 57) := by decide +kernel
 have hfind : ∀ (l : List Bytes) (k : Nat),(∀ x,x ∈ l → x ≠ w) → findW w k l = none := by
  intro l
  induction l with
  | nil => intro k _; rfl
  | cons x l ih =>
    intro k h
    rw [findW,if_neg (h x List.mem_cons_self)]
    exact ih _ fun y hy => h y (List.mem_cons_of_mem _ hy)
 refine hfind _ _ fun x hx e => ?_
 subst e
 have : ∀ x,x ∈ wordsB.drop 1 → ∃ k : Fin 14,1 ≤ k.val ∧ wordB k.val = x := by decide +kernel
 obtain ⟨k,hk,rfl⟩ := this x hx
 cases hw : wordB k.val with
 | nil => exact hne hw
 | cons c r =>
   have hc : c ∈ wordB k.val := by rw [hw]; exact List.mem_cons_self
   exact key k hk c hc (hd c hc)
theorem seg_num (n : Nat) (h : n ≤ 1099511627776) : Seg (Lib.itoa (n : Int)) [(.num n,Lib.itoa (n : Int))] := by
 refine Seg.tok (letter_head (itoa_letter n)) rfl ?_
 rw [lexU_run (itoa_ne n) (itoa_letter n)]
 unfold runU
 rw [(take_self (itoa_letter n)).1,digits_noword (itoa_ne n) (itoa_digits _ (by omega)),numT_itoa n h,(take_self (itoa_letter n)).2]
theorem seg_str (t : Bytes) : Seg (quoteQ t) [(.str t,quoteQ t)] := by
 have e : quoteQ t = 34 :: (escQ t ++ [34]) := by simp [quoteQ]
 refine Seg.tok (fun d hd => by rw [e] at hd; obtain rfl := Option.some.inj hd; decide) rfl ?_
 rw [e]
 have : lexU (34 :: (escQ t ++ [34])) = (match strGo (escQ t ++ [34]) with
  | some p => (.str p.1,p.2)
  | none => (.bad,[])) := rfl
 rw [this,strGo_esc]
theorem seg_lp : Seg [40] [(.lp,[40])] := Seg.tok (fun d hd => by obtain rfl := Option.some.inj hd; decide) rfl rfl
theorem seg_rp : Seg [41] [(.rp,[41])] := Seg.tok (fun d hd => by obtain rfl := Option.some.inj hd; decide) rfl rfl
def SegK (x : Bytes) (ks : List Tk) : Prop := ∃ ps,Seg x ps ∧ ps.map (·.1) = ks
def runK (ks : List Tk) : Bool := match ks.getLast? with
 | some k => k.isRun
 | none => false
theorem runEnd_K : ∀ ps : List (Tk × Bytes),runEnd ps = runK (ps.map (·.1))
 | [] => rfl
 | [x] => rfl
 | _ :: x :: l => by
   rw [runEnd,runEnd_K (x :: l)]
   unfold runK
   simp [List.getLast?_cons_cons]
theorem SegK.append {x y : Bytes} {a b : List Tk} (h1 : SegK x a) (h2 : SegK y b) (hs : runK a = true → b ≠ [] ∧ ∀ z,(runK b = true → sepB z) → sepB (y ++ z)) : SegK (x ++ y) (a ++ b) := by
 obtain ⟨ps,h1,rfl⟩ := h1
 obtain ⟨qs,h2,rfl⟩ := h2
 refine ⟨_,h1.append h2 (fun h => ?_),by simp⟩
 rw [runEnd_K] at h
 obtain ⟨h3,h4⟩ := hs h
 exact ⟨fun e => h3 (by rw [e]; rfl),fun z hz => h4 z (by rw [← runEnd_K]; exact hz)⟩
theorem sep_head {c : UInt8} {y z : Bytes} (h : letterB c = false) : sepB ((c :: y) ++ z) := fun d hd => by
 obtain rfl := Option.some.inj hd
 exact h
theorem segK_bl {b : Bytes} (hb : b.all isBl = true) : SegK b [] := ⟨[],Seg.bl hb,rfl⟩
theorem segK_word {k : Nat} (h1 : 1 ≤ k) (h2 : k ≤ 13) {y : Bytes} {b : List Tk} (hy : SegK y b) (hb : b ≠ []) : SegK (wordB k ++ [32] ++ y) (.word k :: b) := by
 have hw : SegK (wordB k) [.word k] := ⟨_,seg_word k h1 h2,rfl⟩
 have h3 : SegK ([32] ++ y) ([] ++ b) := (segK_bl rfl).append hy (fun h => by cases h)
 rw [List.append_assoc]
 exact hw.append h3 (fun _ => ⟨hb,fun z _ => sep_head (by decide)⟩)
theorem tkQ_ne {q : Qy} (h : VQ q) : tkQ q ≠ [] := by
 cases h with
 | plain k hk => rcases hk with rfl | rfl <;> simp [tkQ,textualN,numericN,opersN]
 | text k t hk => simp [tkQ,hk]
 | num k n hk hn =>
   have : k = 6 ∨ k = 7 := by simpa [numericN] using hk
   rcases this with rfl | rfl <;> simp [tkQ,textualN,numericN,opersN]
 | one k q hk _ =>
   have : k = 9 ∨ k = 12 ∨ k = 13 := by
    unfold opersN at hk
    split at hk
    ·assumption
    ·split at hk <;> cases hk
   rcases this with rfl | rfl | rfl <;> simp [tkQ,textualN,numericN,opersN]
 | two k p q hk _ _ =>
   have : k = 10 ∨ k = 11 := by
    unfold opersN at hk
    split at hk
    ·cases hk
    ·split at hk
     ·assumption
     ·cases hk
   rcases this with rfl | rfl <;> simp [tkQ,textualN,numericN,opersN]
theorem oper1 {k : Nat} (hk : opersN k = 1) : k = 9 ∨ k = 12 ∨ k = 13 := by
 unfold opersN at hk
 split at hk
 ·assumption
 ·split at hk <;> cases hk
theorem oper2 {k : Nat} (hk : opersN k = 2) : k = 10 ∨ k = 11 := by
 unfold opersN at hk
 split at hk
 ·cases hk
 ·split at hk
  ·assumption
  ·cases hk
theorem textQ_plain (k : Nat) (hk : k = 1 ∨ k = 2) : textQ (.mk k [] 0 []) = wordB k ∧ tkQ (.mk k [] 0 []) = [.word k] := by
 rcases hk with rfl | rfl <;> exact ⟨rfl,rfl⟩
theorem textQ_text (k : Nat) (t : Bytes) (hk : textualN k = true) : textQ (.mk k t 0 []) = wordB k ++ [32] ++ quoteQ t ∧ tkQ (.mk k t 0 []) = [.word k,.str t] := by
 have : k = 3 ∨ k = 4 ∨ k = 5 ∨ k = 8 := by simpa [textualN] using hk
 rcases this with rfl | rfl | rfl | rfl <;> exact ⟨rfl,rfl⟩
theorem textQ_num (k n : Nat) (hk : numericN k = true) : textQ (.mk k [] n []) = wordB k ++ [32] ++ Lib.itoa n ∧ tkQ (.mk k [] n []) = [.word k,.num n] := by
 have : k = 6 ∨ k = 7 := by simpa [numericN] using hk
 rcases this with rfl | rfl <;> exact ⟨rfl,rfl⟩
theorem textQ_one (k : Nat) (q : Qy) (hk : opersN k = 1) : textQ (.mk k [] 0 [q]) = wordB k ++ [32] ++ textQ q ∧ tkQ (.mk k [] 0 [q]) = .word k :: tkQ q := by
 rcases oper1 hk with rfl | rfl | rfl <;> exact ⟨rfl,rfl⟩
theorem textQ_two (k : Nat) (p q : Qy) (hk : opersN k = 2) : textQ (.mk k [] 0 [p,q]) = [40] ++ textQ p ++ [32] ++ wordB k ++ [32] ++ textQ q ++ [41] ∧ tkQ (.mk k [] 0 [p,q]) = .lp :: (tkQ p ++ .word k :: (tkQ q ++ [.rp])) := by
 rcases oper2 hk with rfl | rfl <;> exact ⟨rfl,rfl⟩
theorem text_tk {q : Qy} (h : VQ q) : SegK (textQ q) (tkQ q) := by
 induction h with
 | plain k hk =>
   obtain ⟨e1,e2⟩ := textQ_plain k hk
   rw [e1,e2]
   exact ⟨_,seg_word k (by omega) (by omega),rfl⟩
 | text k t hk =>
   obtain ⟨e1,e2⟩ := textQ_text k t hk
   rw [e1,e2]
   have : k = 3 ∨ k = 4 ∨ k = 5 ∨ k = 8 := by simpa [textualN] using hk
   exact segK_word (by omega) (by omega) ⟨_,seg_str t,rfl⟩ (by simp)
 | num k n hk hn =>
   obtain ⟨e1,e2⟩ := textQ_num k n hk
   rw [e1,e2]
   have : k = 6 ∨ k = 7 := by simpa [numericN] using hk
   exact segK_word (by omega) (by omega) ⟨_,seg_num n hn,rfl⟩ (by simp)
 | one k q hk hq ih =>
   obtain ⟨e1,e2⟩ := textQ_one k q hk
   rw [e1,e2]
   have := oper1 hk
   exact segK_word (by omega) (by omega) ih (tkQ_ne hq)
 | two k p q hk hp hq ihp ihq =>
   obtain ⟨e1,e2⟩ := textQ_two k p q hk
   rw [e1,e2]
   have hk2 := oper2 hk
   have a1 : SegK (textQ q ++ [41]) (tkQ q ++ [.rp]) := ihq.append ⟨_,seg_rp,rfl⟩ (fun _ => ⟨by simp,fun z _ => sep_head (by decide)⟩)
   have a2 : SegK (wordB k ++ [32] ++ (textQ q ++ [41])) (.word k :: (tkQ q ++ [.rp])) := segK_word (by omega) (by omega) a1 (by simp)
   have a3 : SegK ([32] ++ (wordB k ++ [32] ++ (textQ q ++ [41]))) ([] ++ (.word k :: (tkQ q ++ [.rp]))) := (segK_bl rfl).append a2 (fun h => by cases h)
   have a4 := ihp.append a3 (fun _ => ⟨by simp,fun z _ => sep_head (by decide)⟩)
   have hl : SegK [40] [.lp] := ⟨_,seg_lp,rfl⟩
   have a5 := hl.append a4 (fun h => by cases h)
   have e3 : [40] ++ textQ p ++ [32] ++ wordB k ++ [32] ++ textQ q ++ [41] = [40] ++ (textQ p ++ ([32] ++ (wordB k ++ [32] ++ (textQ q ++ [41])))) := by simp
   rw [e3]
   exact a5
end Qv

end

section
open Go Go.RowKit
namespace Qv
def GL (s : Bytes) (l : Toks) : Prop := (∃ i,i ≤ s.length ∧ l = toks (s.drop i)) ∧ ∃ e l',l = e :: l' ∧ e.1.bad? = false
def TL (s : Bytes) (l : Toks) : Prop := ∃ i,i ≤ s.length ∧ l = toks (s.drop i)
theorem lexU_suffix {u : Bytes} (h : (lexU u).1.isEnd = false) : ∃ c,u = c ++ (lexU u).2 := by
 obtain ⟨c,-,h1,-⟩ := lexU_local h
 exact ⟨c,h1⟩
theorem tl_cons {s : Bytes} {e : Tk × (Bytes × Bytes)} {l : Toks} (h : TL s (e :: l)) : ∃ i,i ≤ s.length ∧ e = ((lexU (unbl (s.drop i))).1,(unbl (s.drop i),(lexU (unbl (s.drop i))).2)) ∧
 (e.1.isEnd = false → e.2.2.length ≤ s.length ∧ s.drop (s.length - e.2.2.length) = e.2.2 ∧ l = toks e.2.2) ∧ (e.1.isEnd = true → l = []) ∧ e.2.1.length ≤ s.length := by
 obtain ⟨i,hi,h⟩ := h
 rw [toks_eq,List.cons.injEq] at h
 obtain ⟨h1,h2⟩ := h
 obtain ⟨b,hb,hbt⟩ := split_bl (s.drop i)
 have hsplit : s = s.take i ++ (b ++ unbl (s.drop i)) := by rw [← hbt,List.take_append_drop]
 refine ⟨i,hi,h1,fun he => ?_,fun he => ?_,?_⟩
 ·rw [h1] at he ⊢
  have he : (lexU (unbl (s.drop i))).1.isEnd = false := he
  rw [he,if_neg (by simp)] at h2
  obtain ⟨c,hc⟩ := lexU_suffix he
  have hs : s = (s.take i ++ (b ++ c)) ++ (lexU (unbl (s.drop i))).2 := by
   rw [List.append_assoc,List.append_assoc,← hc]; exact hsplit
  have hl : s.length = (s.take i ++ (b ++ c)).length + (lexU (unbl (s.drop i))).2.length := by
   have := congrArg List.length hs
   rwa [List.length_append] at this
  refine ⟨by show (lexU (unbl (s.drop i))).2.length ≤ s.length; omega,?_,h2⟩
  show s.drop (s.length - (lexU (unbl (s.drop i))).2.length) = (lexU (unbl (s.drop i))).2
  have e1 : s.length - (lexU (unbl (s.drop i))).2.length = (s.take i ++ (b ++ c)).length := by omega
  rw [e1]
  have := congrArg (List.drop (s.take i ++ (b ++ c)).length) hs
  rw [List.drop_left] at this
  exact this
 ·rw [h1] at he
  have he : (lexU (unbl (s.drop i))).1.isEnd = true := he
  rw [he,if_pos rfl] at h2
  exact h2
 ·rw [h1]
  show (unbl (s.drop i)).length ≤ s.length
  have := unbl_le (s.drop i)
  rw [List.length_drop] at this
  omega
theorem TL.tail {s : Bytes} {e : Tk × (Bytes × Bytes)} {l : Toks} (h : TL s (e :: l)) (he : e.1.isEnd = false) : TL s l := by
 obtain ⟨i,-,-,h1,-⟩ := tl_cons h
 obtain ⟨h2,h3,h4⟩ := h1 he
 exact ⟨_,Nat.sub_le _ _,by rw [h3]; exact h4⟩
theorem TL.ne {s : Bytes} {l : Toks} (h : TL s l) : l ≠ [] := by
 obtain ⟨i,-,rfl⟩ := h
 rw [toks_eq]
 simp
theorem okT_gl {s : Bytes} {l l' : Toks} {q : Qy} {K : Toks → Option (PR (Bytes × Bytes))} (h : okT l K = some (.ok q l')) (hl : TL s l) (hK : GL s l → K l = some (.ok q l') → GL s l') : GL s l' := by
 match l,h,hl with
 | (t,a) :: l,h,hl =>
   cases t
   case bad => cases h
   all_goals exact hK ⟨hl,_,_,rfl,rfl⟩ h
theorem bindT_ok_inv {α : Type} {x : Option (PR α)} {K : Qy → List (Tk × α) → Option (PR α)} {q : Qy} {l' : List (Tk × α)} (h : bindT x K = some (.ok q l')) : ∃ p l,x = some (.ok p l) ∧ K p l = some (.ok q l') := by
 match x,h with
 | some (.ok p l),h => exact ⟨p,l,rfl,h⟩
theorem goT_gl {s : Bytes} : ∀ (f : Nat) (m : Md) (l l' : Toks) (q : Qy),GL s l → goT f m l = some (.ok q l') → GL s l' := by
 intro f
 induction f with
 | zero => intro m l l' q _ h; cases h
 | succ f ih =>
   intro m l l' q hl h
   cases m with
   | unit =>
     match l,hl,h with
     | (t,a) :: l,hl,h =>
       cases t
       case lp =>
        have ht : TL s l := TL.tail hl.1 rfl
        refine okT_gl (K := fun l => bindT (goT f .disj l) rparT) h ht fun hg h => ?_
        obtain ⟨p,l2,h1,h2⟩ := bindT_ok_inv h
        have hg2 := ih _ _ _ _ hg h1
        match l2,hg2,h2 with
        | (t2,a2) :: l2,hg2,h2 =>
          cases t2
          case rp =>
           refine okT_gl (K := fun l => some (.ok p l)) h2 (TL.tail hg2.1 rfl) fun hg3 h3 => ?_
           injection h3 with h3
           injection h3 with _ h3
           exact h3 ▸ hg3
          all_goals cases h2
       case word k =>
        have ht : TL s l := TL.tail hl.1 rfl
        by_cases hk : opersN k = 2
        ·simp only [goT,if_pos hk] at h
         cases h
        ·simp only [goT,if_neg hk] at h
         refine okT_gl (K := fun l => simpT (goT f .unit) k l) h ht fun hg h => ?_
         unfold simpT at h
         split at h
         ·obtain ⟨p,l2,h1,h2⟩ := bindT_ok_inv h
          injection h2 with h2
          injection h2 with _ h2
          exact h2 ▸ ih _ _ _ _ hg h1
         ·split at h
          ·match l,hg,h with
           | (t2,a2) :: l,hg,h =>
             cases t2
             case str =>
              refine okT_gl (K := fun l => some (.ok (.mk k _ 0 []) l)) h (TL.tail hg.1 rfl) fun hg3 h3 => ?_
              injection h3 with h3
              injection h3 with _ h3
              exact h3 ▸ hg3
             all_goals cases h
          ·split at h
           ·match l,hg,h with
            | (t2,a2) :: l,hg,h =>
              cases t2
              case num =>
               refine okT_gl (K := fun l => some (.ok (.mk k [] _ []) l)) h (TL.tail hg.1 rfl) fun hg3 h3 => ?_
               injection h3 with h3
               injection h3 with _ h3
               exact h3 ▸ hg3
              all_goals cases h
           ·injection h with h
            injection h with _ h
            exact h ▸ hg
       all_goals cases h
   | conj =>
     obtain ⟨p,l2,h1,h2⟩ := bindT_ok_inv (K := fun q l => goT f (.andL q) l) h
     exact ih _ _ _ _ (ih _ _ _ _ hl h1) h2
   | disj =>
     obtain ⟨p,l2,h1,h2⟩ := bindT_ok_inv (K := fun q l => goT f (.orL q) l) h
     exact ih _ _ _ _ (ih _ _ _ _ hl h1) h2
   | andL p =>
     by_cases he : ∃ a l',l = (.word 10,a) :: l'
     ·obtain ⟨a,l1,rfl⟩ := he
      refine okT_gl (K := fun l => bindT (goT f .unit l) fun x l => goT f (.andL (.mk 10 [] 0 [p,x])) l) h (TL.tail hl.1 rfl) fun hg h => ?_
      obtain ⟨x,l2,h1,h2⟩ := bindT_ok_inv h
      exact ih _ _ _ _ (ih _ _ _ _ hg h1) h2
     ·have e : goT (f + 1) (.andL p) l = some (.ok p l) := by
       unfold goT
       split
       ·rename_i a l'; exact absurd ⟨a,l',rfl⟩ he
       ·rfl
      rw [e] at h
      injection h with h
      injection h with _ h
      exact h ▸ hl
   | orL p =>
     by_cases he : ∃ a l',l = (.word 11,a) :: l'
     ·obtain ⟨a,l1,rfl⟩ := he
      refine okT_gl (K := fun l => bindT (goT f .conj l) fun x l => goT f (.orL (.mk 11 [] 0 [p,x])) l) h (TL.tail hl.1 rfl) fun hg h => ?_
      obtain ⟨x,l2,h1,h2⟩ := bindT_ok_inv h
      exact ih _ _ _ _ (ih _ _ _ _ hg h1) h2
     ·have e : goT (f + 1) (.orL p) l = some (.ok p l) := by
       unfold goT
       split
       ·rename_i a l'; exact absurd ⟨a,l',rfl⟩ he
       ·rfl
      rw [e] at h
      injection h with h
      injection h with _ h
      exact h ▸ hl
theorem andL_out {α : Type} {f : Nat} {p : Qy} {l : List (Tk × α)} (he : ¬ ∃ a l',l = (.word 10,a) :: l') : goT (f + 1) (.andL p) l = some (.ok p l) := by
 unfold goT
 split
 ·rename_i a l'; exact absurd ⟨a,l',rfl⟩ he
 ·rfl
theorem orL_out {α : Type} {f : Nat} {p : Qy} {l : List (Tk × α)} (he : ¬ ∃ a l',l = (.word 11,a) :: l') : goT (f + 1) (.orL p) l = some (.ok p l) := by
 unfold goT
 split
 ·rename_i a l'; exact absurd ⟨a,l',rfl⟩ he
 ·rfl
end Qv

end

section
open Go Go.RowKit
namespace Qv
def StrL {α : Type} (N : Nat) (l : List (Tk × α)) : Prop := ∀ t a,(Tk.str t,a) ∈ l → t.length ≤ N
theorem StrL.tail {α : Type} {N : Nat} {x : Tk × α} {l : List (Tk × α)} (h : StrL N (x :: l)) : StrL N l := fun t a hm => h t a (List.mem_cons_of_mem _ hm)
def PRsz {α : Type} (N : Nat) : Option (PR α) → Prop
 | some (.ok q l) => szQ q ∧ StrL N l
 | _ => True
theorem okT_sz {α : Type} {N : Nat} {l : List (Tk × α)} {K : List (Tk × α) → Option (PR α)} (hK : PRsz N (K l)) : PRsz N (okT l K) := by
 match l,hK with
 | [],_ => exact trivial
 | (t,a) :: l,hK => cases t <;> first | exact hK | exact trivial
theorem bindT_sz {α : Type} {N : Nat} {x : Option (PR α)} {K : Qy → List (Tk × α) → Option (PR α)} (h : PRsz N x) (hK : ∀ q l,szQ q → StrL N l → PRsz N (K q l)) : PRsz N (bindT x K) := by
 match x,h with
 | some (.ok q l),h => exact hK q l h.1 h.2
 | some (.err a),_ => exact trivial
 | none,_ => exact trivial
theorem sz_one {k n : Int} {q : Qy} (h : szQ q) : szQ (.mk k [] n [q]) := szQ_mk.2 ⟨Nat.zero_le _,by simp,fun x hx => by rw [List.mem_singleton.1 hx]; exact h⟩
theorem sz_two {k n : Int} {q x : Qy} (h : szQ q) (h' : szQ x) : szQ (.mk k [] n [q,x]) := szQ_mk.2 ⟨Nat.zero_le _,by simp,fun y hy => by
 simp only [List.mem_cons,List.not_mem_nil,or_false] at hy
 rcases hy with rfl | rfl
 ·exact h
 ·exact h'⟩
theorem rparT_sz {α : Type} {N : Nat} {q : Qy} {l : List (Tk × α)} (hq : szQ q) (h : StrL N l) : PRsz N (rparT q l) := by
 match l,h with
 | [],_ => exact trivial
 | (t,a) :: l,h =>
   cases t
   case rp => exact okT_sz (K := fun l => some (.ok q l)) ⟨hq,h.tail⟩
   all_goals exact trivial
theorem simpT_sz {α : Type} {N : Nat} (hN : N ≤ 2 ^ 47) {u : List (Tk × α) → Option (PR α)} {k : Nat} {l : List (Tk × α)} (h : StrL N l) (hu : PRsz N (u l)) : PRsz N (simpT u k l) := by
 unfold simpT
 split
 ·exact bindT_sz hu fun q l hq hl => ⟨sz_one hq,hl⟩
 ·split
  ·match l,h with
   | [],_ => exact trivial
   | (t,a) :: l,h =>
     cases t
     case str t => exact okT_sz (K := fun l => some (.ok (.mk k t 0 []) l)) ⟨szQ_mk.2 ⟨Nat.le_trans (h t a (by simp)) hN,Nat.zero_le _,fun x hx => by cases hx⟩,h.tail⟩
     all_goals exact trivial
  ·split
   ·match l,h with
    | [],_ => exact trivial
    | (t,a) :: l,h =>
      cases t
      case num t => exact okT_sz (K := fun l => some (.ok (.mk k [] t []) l)) ⟨szQ_mk.2 ⟨Nat.zero_le _,Nat.zero_le _,fun x hx => by cases hx⟩,h.tail⟩
      all_goals exact trivial
   ·exact ⟨szQ_mk.2 ⟨Nat.zero_le _,Nat.zero_le _,fun x hx => by cases hx⟩,h⟩
def Md.sz : Md → Prop
 | .andL q => szQ q
 | .orL q => szQ q
 | _ => True
theorem goT_sz {α : Type} {N : Nat} (hN : N ≤ 2 ^ 47) : ∀ (f : Nat) (m : Md) (l : List (Tk × α)),StrL N l → m.sz → PRsz N (goT f m l) := by
 intro f
 induction f with
 | zero => intro m l _ _; exact trivial
 | succ f ih =>
   intro m l h hm
   cases m with
   | unit =>
     match l,h with
     | [],_ => exact trivial
     | (t,a) :: l,h =>
       cases t
       case lp => exact okT_sz (K := fun l => bindT (goT f .disj l) rparT) (bindT_sz (ih .disj _ h.tail trivial) fun q l hq hl => rparT_sz hq hl)
       case word k =>
        by_cases hk : opersN k = 2
        ·simp only [goT,if_pos hk]; exact trivial
        ·simp only [goT,if_neg hk]
         exact okT_sz (K := fun l => simpT (goT f .unit) k l) (simpT_sz hN h.tail (ih .unit _ h.tail trivial))
       all_goals exact trivial
   | conj => exact bindT_sz (K := fun q l => goT f (.andL q) l) (ih .unit _ h trivial) fun q l hq hl => ih (.andL q) _ hl hq
   | disj => exact bindT_sz (K := fun q l => goT f (.orL q) l) (ih .conj _ h trivial) fun q l hq hl => ih (.orL q) _ hl hq
   | andL q =>
     by_cases hl : ∃ a l',l = (.word 10,a) :: l'
     ·obtain ⟨a,l',rfl⟩ := hl
      exact okT_sz (K := fun l => bindT (goT f .unit l) fun x l => goT f (.andL (.mk 10 [] 0 [q,x])) l) (bindT_sz (ih .unit _ h.tail trivial) fun x l hx hl => ih (.andL (.mk 10 [] 0 [q,x])) _ hl (sz_two (k := 10) (n := 0) hm hx))
     ·have e : goT (f + 1) (.andL q) l = some (.ok q l) := by
       unfold goT
       split
       ·rename_i a l'; exact absurd ⟨a,l',rfl⟩ hl
       ·rfl
      rw [e]
      exact ⟨hm,h⟩
   | orL q =>
     by_cases hl : ∃ a l',l = (.word 11,a) :: l'
     ·obtain ⟨a,l',rfl⟩ := hl
      exact okT_sz (K := fun l => bindT (goT f .conj l) fun x l => goT f (.orL (.mk 11 [] 0 [q,x])) l) (bindT_sz (ih .conj _ h.tail trivial) fun x l hx hl => ih (.orL (.mk 11 [] 0 [q,x])) _ hl (sz_two (k := 11) (n := 0) hm hx))
     ·have e : goT (f + 1) (.orL q) l = some (.ok q l) := by
       unfold goT
       split
       ·rename_i a l'; exact absurd ⟨a,l',rfl⟩ hl
       ·rfl
      rw [e]
      exact ⟨hm,h⟩
theorem allT_sz {α : Type} {N : Nat} (hN : N ≤ 2 ^ 47) {l l' : List (Tk × α)} {q : Qy} (h : StrL N l) (hr : allT l = some (.ok q l')) : szQ q := by
 have : PRsz N (allT l) := okT_sz (bindT_sz (goT_sz hN _ _ _ h trivial) fun q l hq hl => by
  match l,hl with
  | [],_ => exact trivial
  | (t,a) :: l,hl =>
    cases t
    case stop => exact ⟨hq,fun t a hm => by cases hm⟩
    all_goals exact trivial)
 rw [hr] at this
 exact this.1
theorem strGo_le : ∀ {r : Bytes} {p : Bytes × Bytes},strGo r = some p → p.1.length ≤ r.length
 | [],p,h => by cases h
 | c :: r,p,h => by
   unfold strGo at h
   split at h
   ·obtain rfl := Option.some.inj h; simp
   ·split at h
    ·match r,h with
     | [],h => cases h
     | d :: r,h =>
       simp only at h
       split at h
       ·cases hq : strGo r with
        | none => rw [hq] at h; cases h
        | some q =>
          rw [hq] at h
          obtain rfl := Option.some.inj h
          have := strGo_le hq
          simp; omega
       ·cases h
    ·cases hq : strGo r with
     | none => rw [hq] at h; cases h
     | some q =>
       rw [hq] at h
       obtain rfl := Option.some.inj h
       have := strGo_le hq
       simp; omega
theorem lexU_str {u t : Bytes} (h : (lexU u).1 = .str t) : t.length ≤ u.length := by
 cases u with
 | nil => cases h
 | cons c r =>
   unfold lexU at h
   simp only at h
   split at h
   ·cases h
   ·split at h
    ·cases h
    ·split at h
     ·cases hs : strGo r with
      | none => rw [hs] at h; cases h
      | some p =>
        rw [hs] at h
        have h : Tk.str p.1 = .str t := h
        injection h with h
        subst h
        have := strGo_le hs
        simp; omega
     ·split at h
      ·unfold runU at h
       split at h
       ·cases h
       ·split at h <;> cases h
      ·cases h
theorem toks_str (N n : Nat) : ∀ t : Bytes,t.length ≤ n → t.length ≤ N → StrL N (toks t) := by
 induction n with
 | zero =>
   intro t h _
   have : t = [] := List.length_eq_zero_iff.1 (by omega)
   subst this
   intro t a hm
   have hm : (Tk.str t,a) ∈ [(Tk.stop,_)] := hm
   rw [List.mem_singleton] at hm
   cases hm
 | succ n ih =>
   intro t h hN
   rw [toks_eq]
   intro x a hm
   rw [List.mem_cons] at hm
   have hu := unbl_le t
   rcases hm with hm | hm
   ·have h1 : (lexU (unbl t)).1 = .str x := (congrArg Prod.fst hm).symm
    have := lexU_str h1
    omega
   ·split at hm
    ·cases hm
    ·rename_i he
     have he : (lexU (unbl t)).1.isEnd = false := by simpa using he
     have := lexU_lt he
     exact ih _ (by omega) (by omega) x a hm
theorem parse_sz {s : Bytes} (hs : s.length ≤ 2 ^ 47) {q : Qy} {l : Toks} (h : allT (toks s) = some (.ok q l)) : szQ q := allT_sz (N := s.length) hs (toks_str _ _ s (Nat.le_refl _) (Nat.le_refl _)) h
end Qv

end

section
open Go Go.RowKit
namespace Qv
section
variable {α : Type}
def kinds (l : List (Tk × α)) : List Tk := l.map Prod.fst
def Hd (l' l'' : List (Tk × α)) : Prop := ∃ e r,l'' = e :: r ∧ ((e.1 = .stop ∨ e.1 = .rp) ∨ ∃ e' r',l' = e' :: r' ∧ e'.1 = e.1)
def StopR (b : α) (x : Option (PR α)) : Prop := x = some (.err b) ∨ ∃ q,x = some (.ok q [(.stop,b)])
structure Loc (K K3 : List (Tk × α) → Option (PR α)) : Prop where
 ok : ∀ l q l',K l = some (.ok q l') → ∃ p,l = p ++ l' ∧ ∀ p' l'',kinds p' = kinds p → Hd l' l'' → K3 (p' ++ l'') = some (.ok q l'')
 err : ∀ l a,K l = some (.err a) → ∃ p e l2,l = p ++ e :: l2 ∧ a = e.2 ∧ ∀ p' b,kinds p' = kinds p → StopR b (K3 (p' ++ [(.stop,b)]))
 stop : ∀ b,StopR b (K3 [(.stop,b)])
theorem kinds_nil {p : List (Tk × α)} (h : kinds p = kinds ([] : List (Tk × α))) : p = [] := by
 cases p with
 | nil => rfl
 | cons x p => cases h
theorem kinds_cons {p' : List (Tk × α)} {x : Tk × α} {p : List (Tk × α)} (h : kinds p' = kinds (x :: p)) : ∃ a p2,p' = (x.1,a) :: p2 ∧ kinds p2 = kinds p := by
 cases p' with
 | nil => cases h
 | cons y p' =>
   injection h with h1 h2
   obtain ⟨t,a⟩ := y
   obtain rfl : t = x.1 := h1
   exact ⟨a,p',rfl,h2⟩
theorem kinds_app {p' p1 p2 : List (Tk × α)} (h : kinds p' = kinds (p1 ++ p2)) : ∃ q1 q2,p' = q1 ++ q2 ∧ kinds q1 = kinds p1 ∧ kinds q2 = kinds p2 := by
 induction p1 generalizing p' with
 | nil => exact ⟨[],p',rfl,rfl,h⟩
 | cons x p1 ih =>
   obtain ⟨a,r,rfl,hr⟩ := kinds_cons h
   obtain ⟨q1,q2,rfl,h1,h2⟩ := ih hr
   exact ⟨(x.1,a) :: q1,q2,rfl,by show x.1 :: kinds q1 = x.1 :: kinds p1; rw [h1],h2⟩
theorem okT_cons {t : Tk} {a : α} {l : List (Tk × α)} {K : List (Tk × α) → Option (PR α)} (h : t.bad? = false) : okT ((t,a) :: l) K = K ((t,a) :: l) := by
 cases t <;> first | rfl | cases h
theorem Loc.ret (q : Qy) : Loc (α := α) (fun l => some (.ok q l)) (fun l => some (.ok q l)) := by
 refine ⟨fun l q' l' h => ?_,fun l a h => (by cases h),fun b => .inr ⟨q,rfl⟩⟩
 injection h with h
 injection h with h1 h2
 subst h1; subst h2
 refine ⟨[],rfl,fun p' l'' hk _ => ?_⟩
 rw [kinds_nil hk]
 rfl
theorem Loc.okT {K K3 : List (Tk × α) → Option (PR α)} (h : Loc K K3) : Loc (fun l => Qv.okT l K) (fun l => Qv.okT l K3) := by
 refine ⟨fun l q l' hl => ?_,fun l a hl => ?_,fun b => h.stop b⟩
 ·match l,hl with
  | (t,a) :: l,hl =>
    have hb : t.bad? = false := by cases t <;> first | rfl | cases hl
    have hl : Qv.okT ((t,a) :: l) K = _ := hl
    rw [okT_cons hb] at hl
    obtain ⟨p,e,hp⟩ := h.ok _ _ _ hl
    refine ⟨p,e,fun p' l'' hk hd => ?_⟩
    have : Qv.okT (p' ++ l'') K3 = K3 (p' ++ l'') := by
     cases p with
     | nil =>
       rw [kinds_nil hk,List.nil_append]
       obtain ⟨⟨t2,a2⟩,r,rfl,h2⟩ := hd
       refine okT_cons ?_
       rcases h2 with h2 | ⟨e',r',h3,h4⟩
       ·have h2 : t2 = .stop ∨ t2 = .rp := h2
        rcases h2 with h2 | h2 <;> (rw [h2]; rfl)
       ·rw [List.nil_append] at e
        rw [h3] at e
        injection e with e _
        subst e
        have h4 : t = t2 := h4
        rw [← h4]; exact hb
     | cons x p =>
       obtain ⟨a2,r,rfl,hr⟩ := kinds_cons hk
       injection e with e _
       subst e
       exact okT_cons hb
    show Qv.okT (p' ++ l'') K3 = _
    rw [this]
    exact hp p' l'' hk hd
 ·match l,hl with
  | (t,a') :: l,hl =>
    by_cases hb : t.bad? = false
    ·have hl : Qv.okT ((t,a') :: l) K = _ := hl
     rw [okT_cons hb] at hl
     obtain ⟨p,e,l2,e1,e2,hp⟩ := h.err _ _ hl
     refine ⟨p,e,l2,e1,e2,fun p' b hk => ?_⟩
     have : Qv.okT (p' ++ [(.stop,b)]) K3 = K3 (p' ++ [(.stop,b)]) := by
      cases p with
      | nil => rw [kinds_nil hk]; rfl
      | cons x p =>
        obtain ⟨a2,r,rfl,hr⟩ := kinds_cons hk
        injection e1 with e1 _
        subst e1
        exact okT_cons hb
     show StopR b (Qv.okT (p' ++ [(.stop,b)]) K3)
     rw [this]
     exact hp p' b hk
    ·have : t = .bad := by cases t <;> first | rfl | exact absurd rfl hb
     subst this
     have hl : some (PR.err a') = some (.err a) := hl
     injection hl with hl
     injection hl with hl
     subst hl
     refine ⟨[],(.bad,a'),l,rfl,rfl,fun p' b hk => ?_⟩
     rw [kinds_nil hk]
     exact h.stop b
theorem hd_app {l1 p2 l' q2 l'' : List (Tk × α)} (e : l1 = p2 ++ l') (hk : kinds q2 = kinds p2) (hd : Hd l' l'') : Hd l1 (q2 ++ l'') := by
 cases p2 with
 | nil =>
   rw [kinds_nil hk,e]
   exact hd
 | cons x p2 =>
   obtain ⟨a,r,rfl,hr⟩ := kinds_cons hk
   exact ⟨_,_,rfl,.inr ⟨x,p2 ++ l',e,rfl⟩⟩
theorem Loc.bind {X X3 : List (Tk × α) → Option (PR α)} {K K3 : Qy → List (Tk × α) → Option (PR α)} (hX : Loc X X3) (hK : ∀ q,Loc (K q) (K3 q)) : Loc (fun l => bindT (X l) K) (fun l => bindT (X3 l) K3) := by
 refine ⟨fun l q l' hl => ?_,fun l a hl => ?_,fun b => ?_⟩
 ·have hl : bindT (X l) K = some (.ok q l') := hl
  obtain ⟨p0,l1,h1,h2⟩ := bindT_ok_inv hl
  obtain ⟨p1,e1,g1⟩ := hX.ok _ _ _ h1
  obtain ⟨p2,e2,g2⟩ := (hK p0).ok _ _ _ h2
  refine ⟨p1 ++ p2,by rw [e1,e2,List.append_assoc],fun p' l'' hk hd => ?_⟩
  obtain ⟨q1,q2,rfl,k1,k2⟩ := kinds_app hk
  show bindT (X3 (q1 ++ q2 ++ l'')) K3 = _
  rw [List.append_assoc,g1 q1 (q2 ++ l'') k1 (hd_app e2 k2 hd)]
  exact g2 q2 l'' k2 hd
 ·have hl : bindT (X l) K = some (.err a) := hl
  cases hx : X l with
  | none => rw [hx] at hl; cases hl
  | some r =>
    rw [hx] at hl
    cases r with
    | err a' =>
      have hl : some (PR.err a') = some (.err a) := hl
      injection hl with hl
      injection hl with hl
      subst hl
      obtain ⟨p,e,l2,e1,e2,hp⟩ := hX.err _ _ hx
      refine ⟨p,e,l2,e1,e2,fun p' b hk => ?_⟩
      rcases hp p' b hk with h | ⟨q,h⟩
      ·exact .inl (by show bindT (X3 _) K3 = _; rw [h]; rfl)
      ·show StopR b (bindT (X3 _) K3)
       rw [h]
       exact (hK q).stop b
    | ok p0 l1 =>
      have hl : K p0 l1 = some (.err a) := hl
      obtain ⟨p1,e1,g1⟩ := hX.ok _ _ _ hx
      obtain ⟨p2,e,l2,e2,e3,g2⟩ := (hK p0).err _ _ hl
      refine ⟨p1 ++ p2,e,l2,by rw [e1,e2,List.append_assoc],e3,fun p' b hk => ?_⟩
      obtain ⟨q1,q2,rfl,k1,k2⟩ := kinds_app hk
      show StopR b (bindT (X3 (q1 ++ q2 ++ [(.stop,b)])) K3)
      rw [List.append_assoc,g1 q1 (q2 ++ [(Tk.stop,b)]) k1 ?_]
      ·exact g2 q2 b k2
      ·cases p2 with
       | nil => rw [kinds_nil k2]; exact ⟨_,_,rfl,.inl (.inl rfl)⟩
       | cons x p2 =>
         obtain ⟨a2,r,rfl,hr⟩ := kinds_cons k2
         exact ⟨_,_,rfl,.inr ⟨x,p2 ++ e :: l2,e2,rfl⟩⟩
 ·rcases hX.stop b with h | ⟨q,h⟩
  ·exact .inl (by show bindT (X3 _) K3 = _; rw [h]; rfl)
  ·show StopR b (bindT (X3 _) K3)
   rw [h]
   exact (hK q).stop b
theorem Loc.tok {K K3 : List (Tk × α) → Option (PR α)} (G : Tk → Option ((List (Tk × α) → Option (PR α)) × (List (Tk × α) → Option (PR α)))) (hs : G .stop = none) (hG : ∀ t x,G t = some x → Loc x.1 x.2)
 (h0 : K [] = none) (h1 : ∀ t a l,K ((t,a) :: l) = match G t with | some x => x.1 l | none => some (.err a)) (h3 : ∀ t a l,K3 ((t,a) :: l) = match G t with | some x => x.2 l | none => some (.err a)) : Loc K K3 := by
 have hstop : ∀ b,StopR b (K3 [(.stop,b)]) := fun b => .inl (by rw [h3,hs])
 refine ⟨fun l q l' hl => ?_,fun l a hl => ?_,hstop⟩
 ·match l,hl with
  | [],hl => rw [h0] at hl; cases hl
  | (t,a) :: l,hl =>
    rw [h1] at hl
    cases hg : G t with
    | none => rw [hg] at hl; cases hl
    | some x =>
      rw [hg] at hl
      obtain ⟨p,e,hp⟩ := (hG t x hg).ok _ _ _ hl
      refine ⟨(t,a) :: p,by rw [e]; rfl,fun p' l'' hk hd => ?_⟩
      obtain ⟨a2,r,rfl,hr⟩ := kinds_cons hk
      rw [List.cons_append,h3,hg]
      exact hp r l'' hr hd
 ·match l,hl with
  | [],hl => rw [h0] at hl; cases hl
  | (t,a') :: l,hl =>
    rw [h1] at hl
    cases hg : G t with
    | none =>
      rw [hg] at hl
      injection hl with hl
      injection hl with hl
      subst hl
      refine ⟨[],(t,a'),l,rfl,rfl,fun p' b hk => ?_⟩
      rw [kinds_nil hk]
      exact hstop b
    | some x =>
      rw [hg] at hl
      obtain ⟨p,e,l2,e1,e2,hp⟩ := (hG t x hg).err _ _ hl
      refine ⟨(t,a') :: p,e,l2,by rw [e1]; rfl,e2,fun p' b hk => ?_⟩
      obtain ⟨a2,r,rfl,hr⟩ := kinds_cons hk
      rw [List.cons_append,h3,hg]
      exact hp r b hr
def endK (q : Qy) (l : List (Tk × α)) : Option (PR α) := match l with
 | (.stop,a) :: _ => some (.ok q [])
 | (_,a) :: _ => some (.err a)
 | [] => none
theorem allT_eq (l : List (Tk × α)) : allT l = okT l fun l => bindT (goT (3 * l.length + 3) .disj l) endK := rfl
end
end Qv

end
