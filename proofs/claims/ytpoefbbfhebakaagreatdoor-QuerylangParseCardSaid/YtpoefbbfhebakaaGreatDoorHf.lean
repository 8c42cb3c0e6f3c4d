/- Several texts in one: The reference's reader of queries in plain terms and what follows. No condition. -/
import Derived.Test.YtpoefbbfhebakaaGreatDoorHN
import Derived.Test.YtpoefbbfhebakaaGreatDoorHX
set_option linter.unusedVariables false
set_option linter.unusedSimpArgs false

section
open Go Go.RowKit
namespace Qv
def kindR (w : Bytes) : Nat := (wordIx w).getD 0
def textR (u : Bytes) : Bytes × Bytes × Bool := match unbl u with
 | [] => ([],[],true)
 | c :: r => if c = 34 then match strGo r with
     | some p => (p.1,p.2,false)
     | none => ([],c :: r,true)
   else ([],c :: r,true)
def numGo (z : Bool) : Bool → Nat → Bytes → Option Nat
 | _,n,[] => some n
 | late,n,c :: w => if 57 < c.toNat ∨ (late = true ∧ z = true) ∨ 1099511627776 < n then none else numGo z true (n * 10 + (c.toNat - 48)) w
def numR (w : Bytes) : Option Nat := match numGo (w.head? == some 48) false 0 w with
 | some n => if w = [] ∨ 1099511627776 < n then none else some n
 | none => none
def numberR (u : Bytes) : Nat × Bytes × Bool := match numR ((unbl u).takeWhile letterB) with
 | some n => (n,(unbl u).dropWhile letterB,false)
 | none => (0,unbl u,true)
abbrev RO := Option (Qy × Bytes × Bool)
def closeR (q : Qy) (u : Bytes) (b : Bool) : Qy × Bytes × Bool :=
 if b = true then (q,unbl u,true) else match unbl u with
  | [] => (q,[],true)
  | c :: r => if c = 41 then (q,r,false) else (q,c :: r,true)
def wordedR (unit : Bytes → RO) (k : Nat) (u : Bytes) : RO :=
 if textualN k = true then some (.mk k (textR u).1 0 [],(textR u).2)
 else if numericN k = true then some (.mk k [] (numberR u).1 [],(numberR u).2)
 else if opersN k = 1 then match unit u with
  | some (x,w,b) => some (.mk k [] 0 [x],w,b)
  | none => none
 else some (.mk k [] 0 [],u,false)
inductive MR where
 | unit
 | chain (k : Nat)
 | loop (k : Nat) (q : Qy) (b : Bool)
def linkM (k : Nat) : MR := if k = 11 then .chain 10 else .unit
def goR : Nat → MR → Bytes → RO
 | 0,_,_ => none
 | f + 1,.unit,u =>
   if (unbl u).head? = some 40 then match goR f (.chain 11) (unbl u).tail with
    | some (q,w,b) => some (closeR q w b)
    | none => none
   else if kindR ((unbl u).takeWhile letterB) = 0 ∨ kindR ((unbl u).takeWhile letterB) = 10 ∨ kindR ((unbl u).takeWhile letterB) = 11 then some (.mk (kindR ((unbl u).takeWhile letterB)) [] 0 [],unbl u,true)
   else wordedR (goR f .unit) (kindR ((unbl u).takeWhile letterB)) ((unbl u).dropWhile letterB)
 | f + 1,.chain k,u => match goR f (linkM k) u with
   | some (q,w,b) => goR f (.loop k q b) w
   | none => none
 | f + 1,.loop k q b,u =>
   if b = true then some (q,u,true)
   else if (unbl u).takeWhile letterB ≠ wordB k then some (q,u,false)
   else match goR f (linkM k) ((unbl u).dropWhile letterB) with
    | some (x,w,b) => goR f (.loop k (.mk k [] 0 [q,x]) b) w
    | none => none
theorem numGo_app (z : Bool) : ∀ (a b : Bytes) (late : Bool) (n : Nat),a ≠ [] → numGo z late n (a ++ b) = (numGo z late n a).bind fun m => numGo z true m b
 | [],_,_,_,h => absurd rfl h
 | [c],b,late,n,_ => by
   show (if _ then none else numGo z true _ b) = Option.bind (if _ then none else some _) _
   split <;> rfl
 | c :: d :: a,b,late,n,_ => by
   rw [List.cons_append]
   show (if _ then none else numGo z true _ ((d :: a) ++ b)) = Option.bind (if _ then none else numGo z true _ (d :: a)) _
   split
   ·rfl
   ·exact numGo_app z (d :: a) b _ _ (by simp)
theorem dec_head (u : Nat) (hu : 1 ≤ u) : ∃ c r,Lib.decDigits u = c :: r ∧ c ≠ 48 := by
 induction u using Nat.strongRecOn with
 | _ u ih =>
   rw [Lib.decDigits]
   split
   ·rename_i h
    refine ⟨_,_,rfl,fun e => ?_⟩
    have := congrArg UInt8.toNat e
    simp at this
    omega
   ·obtain ⟨c,r,e,h⟩ := ih (u / 10) (by omega) (by omega)
    exact ⟨c,r ++ [UInt8.ofNat (48 + u % 10)],by rw [e]; rfl,h⟩
theorem numGo_dec (z : Bool) (u : Nat) (hu : u ≤ 1099511627776) : (10 ≤ u → z = false) → numGo z false 0 (Lib.decDigits u) = some u := by
 induction u using Nat.strongRecOn with
 | _ u ih =>
   intro hz
   have hd : ∀ d,d < 10 → (UInt8.ofNat (48 + d)).toNat = 48 + d := fun d h => by simp; omega
   rw [Lib.decDigits]
   split
   ·rename_i h
    show (if _ then none else some _) = some u
    rw [hd u h,if_neg (by simp; omega)]
    congr 1
    omega
   ·rename_i h
    have hz := hz (by omega)
    rw [numGo_app z _ _ _ _ (dec_ne _),ih (u / 10) (by omega) (by omega) (fun _ => hz)]
    show (if _ then none else some _) = some u
    rw [hd _ (by omega),if_neg (by simp [hz]; omega)]
    congr 1
    omega
theorem dec_of (w : Bytes) (hl : ∀ c,c ∈ w → letterB c = true) : ∀ (k : Nat),w.length = k + 1 → ∀ n,numGo (w.head? == some 48) false 0 w = some n → w = Lib.decDigits n := by
 intro k
 induction k generalizing w with
 | zero =>
   intro hk n h
   match w,hk with
   | [c],_ =>
     have h : (if 57 < c.toNat ∨ (false = true ∧ _) ∨ 1099511627776 < 0 then none else some (0 * 10 + (c.toNat - 48))) = some n := h
     split at h
     ·cases h
     ·rename_i hn
      injection h with h
      have hc := hl c List.mem_cons_self
      have : 48 ≤ c.toNat := by
       simp only [letterB,Bool.or_eq_true,Bool.and_eq_true,decide_eq_true_eq,UInt8.le_iff_toNat_le] at hc
       have e1 : (97 : UInt8).toNat = 97 := rfl
       have e2 : (48 : UInt8).toNat = 48 := rfl
       omega
      rw [Lib.decDigits,dif_pos (by omega)]
      congr 1
      apply UInt8.toNat_inj.1
      simp
      omega
 | succ k ih =>
   intro hk n h
   obtain ⟨v,d,rfl⟩ : ∃ v d,w = v ++ [d] := ⟨w.dropLast,w.getLast (by intro e; rw [e] at hk; cases hk),(List.dropLast_concat_getLast _).symm⟩
   have hvl : v.length = k + 1 := by simpa using hk
   have hv : v ≠ [] := by intro e; rw [e] at hvl; cases hvl
   have hh : (v ++ [d]).head? = v.head? := by
    cases v with
    | nil => exact absurd rfl hv
    | cons c v => rfl
   rw [hh,numGo_app _ _ _ _ _ hv] at h
   cases hm : numGo (v.head? == some 48) false 0 v with
   | none => rw [hm] at h; cases h
   | some m =>
     rw [hm] at h
     have h : (if 57 < d.toNat ∨ (true = true ∧ (v.head? == some 48) = true) ∨ 1099511627776 < m then none else some (m * 10 + (d.toNat - 48))) = some n := h
     split at h
     ·cases h
     ·rename_i hn
      injection h with h
      have e := ih v (fun c hc => hl c (List.mem_append_left _ hc)) hvl m hm
      have hd := hl d (by simp)
      have h48 : 48 ≤ d.toNat := by
       simp only [letterB,Bool.or_eq_true,Bool.and_eq_true,decide_eq_true_eq,UInt8.le_iff_toNat_le] at hd
       have e1 : (97 : UInt8).toNat = 97 := rfl
       have e2 : (48 : UInt8).toNat = 48 := rfl
       omega
      have hm1 : 1 ≤ m := by
       refine Nat.one_le_iff_ne_zero.2 fun h0 => ?_
       subst h0
       have e0 : Lib.decDigits 0 = [48] := by rw [Lib.decDigits]; rfl
       rw [e0] at e
       rw [e] at hn
       exact hn (.inr (.inl ⟨rfl,rfl⟩))
      conv => rhs; rw [Lib.decDigits]
      rw [dif_neg (by omega)]
      have e1 : n / 10 = m := by omega
      have e2 : n % 10 = d.toNat - 48 := by omega
      rw [e1,← e,e2]
      congr 2
      apply UInt8.toNat_inj.1
      have : d.toNat < 256 := d.toNat_lt
      simp
      omega
theorem itoa_nat (n : Nat) : Lib.itoa (n : Int) = Lib.decDigits n := by
 unfold Lib.itoa
 rw [if_neg (by omega)]
 rfl
theorem numR_eq {w : Bytes} (hl : ∀ c,c ∈ w → letterB c = true) : numR w = numT w := by
 have fwd : ∀ n : Nat,n ≤ 1099511627776 → numR (Lib.itoa (n : Int)) = some n := fun n hn => by
  have hz : numGo ((Lib.itoa (n : Int)).head? == some 48) false 0 (Lib.itoa (n : Int)) = some n := by
   rw [itoa_nat]
   refine numGo_dec _ n hn fun h10 => ?_
   obtain ⟨c,r,e,hc⟩ := dec_head n (by omega)
   rw [e]
   simp [hc]
  unfold numR
  rw [hz]
  simp only
  rw [if_neg (by rintro (h | h); exact itoa_ne n h; omega)]
 cases hT : numT w with
 | some n =>
   obtain ⟨rfl,hn⟩ := numT_some hT
   exact fwd n hn
 | none =>
   cases hR : numR w with
   | none => rfl
   | some n =>
     exfalso
     unfold numR at hR
     cases hg : numGo (w.head? == some 48) false 0 w with
     | none => rw [hg] at hR; cases hR
     | some m =>
       rw [hg] at hR
       simp only at hR
       split at hR
       ·cases hR
       ·rename_i hn
        obtain rfl := Option.some.inj hR
        have hne : w ≠ [] := fun h => hn (.inl h)
        have hpos := List.length_pos_iff.2 hne
        have e := dec_of w hl (w.length - 1) (by omega) m hg
        rw [← itoa_nat] at e
        rw [e,numT_itoa m (by omega)] at hT
        cases hT
end Qv

end

section
open Go Go.RowKit
namespace Qv
def RelR (r : PR (Bytes × Bytes)) (x : Qy × Bytes × Bool) : Prop := match r with
 | .ok q l => x.1 = q ∧ x.2.2 = false ∧ l = toks x.2.1 ∧ HdOK l
 | .err a => (x.2.2 = true ∧ x.2.1 = a.1 ∧ unbl a.1 = a.1) ∨ (x.2.2 = false ∧ unbl x.2.1 = a.1 ∧ (lexU a.1).1 = .bad)
theorem unbl_unbl (u : Bytes) : unbl (unbl u) = unbl u := by
 cases h : unbl u with
 | nil => rfl
 | cons c r =>
   have := unbl_head u c (by rw [h]; rfl)
   rw [unbl,List.dropWhile_cons,if_neg (by rw [this]; simp)]
theorem toks_head (u : Bytes) : ∃ l,toks u = ((lexU (unbl u)).1,(unbl u,(lexU (unbl u)).2)) :: l ∧ ((lexU (unbl u)).1.isEnd = false → l = toks (lexU (unbl u)).2) := by
 refine ⟨_,toks_eq u,fun h => ?_⟩
 rw [h]
 rfl
theorem okT_toks {u : Bytes} {K : Toks → Option (PR (Bytes × Bytes))} {r : PR (Bytes × Bytes)} (h : okT (toks u) K = some r) :
 ((lexU (unbl u)).1 = .bad ∧ r = .err (unbl u,(lexU (unbl u)).2)) ∨ (HdOK (toks u) ∧ K (toks u) = some r) := by
 obtain ⟨l,e,-⟩ := toks_head u
 by_cases hb : (lexU (unbl u)).1.bad? = false
 ·have hd : HdOK (toks u) := by rw [e]; exact ⟨_,_,rfl,hb⟩
  rw [okT_hd hd] at h
  exact .inr ⟨hd,h⟩
 ·have : (lexU (unbl u)).1 = .bad := by
   cases hq : (lexU (unbl u)).1 <;> first | rfl | (rw [hq] at hb; exact absurd rfl hb)
  rw [e,this] at h
  have h : some (PR.err (unbl u,(lexU (unbl u)).2)) = some r := h
  exact .inl ⟨this,(Option.some.inj h).symm⟩
theorem rel_bad {u : Bytes} (h : (lexU (unbl u)).1 = .bad) (q : Qy) : RelR (.err (unbl u,(lexU (unbl u)).2)) (q,u,false) := .inr ⟨rfl,rfl,h⟩
theorem rel_err (u : Bytes) (b : Bytes) (q : Qy) : RelR (.err (unbl u,b)) (q,unbl u,true) := .inl ⟨rfl,rfl,unbl_unbl u⟩
theorem rel_ok {u : Bytes} {q : Qy} {r : PR (Bytes × Bytes)} (h : okT (toks u) (fun l => some (.ok q l)) = some r) : RelR r (q,u,false) := by
 rcases okT_toks h with ⟨h1,rfl⟩ | ⟨h1,h2⟩
 ·exact rel_bad h1 q
 ·obtain rfl := Option.some.inj h2
  exact ⟨rfl,rfl,rfl,h1⟩
theorem okT_bind {α : Type} {l : List (Tk × α)} {X : List (Tk × α) → Option (PR α)} {K : Qy → List (Tk × α) → Option (PR α)} : okT l (fun l => bindT (X l) K) = bindT (okT l X) K := by
 match l with
 | [] => rfl
 | (t,a) :: l => cases t <;> rfl
theorem bindT_inv {α : Type} {x : Option (PR α)} {K : Qy → List (Tk × α) → Option (PR α)} {r : PR α} (h : bindT x K = some r) : (∃ a,x = some (.err a) ∧ r = .err a) ∨ ∃ q l,x = some (.ok q l) ∧ K q l = some r := by
 match x,h with
 | some (.ok q l),h => exact .inr ⟨q,l,rfl,h⟩
 | some (.err a),h => exact .inl ⟨a,rfl,(Option.some.inj h).symm⟩
theorem lexU_consR (c : UInt8) (r : Bytes) : lexU (c :: r) = (if c = 40 then (.lp,r) else if c = 41 then (.rp,r)
 else if c = 34 then (match strGo r with
  | some p => (.str p.1,p.2)
  | none => (.bad,[]))
 else if letterB c = true then runU (c :: r) else (.bad,[])) := rfl
theorem findW_at {w : Bytes} : ∀ {l : List Bytes} {k j : Nat},findW w k l = some j → ∃ i,j = k + i ∧ l[i]? = some w
 | [],_,_,h => by cases h
 | x :: l,k,j,h => by
   unfold findW at h
   split at h
   ·rename_i e
    obtain rfl := Option.some.inj h
    exact ⟨0,rfl,by rw [e]; rfl⟩
   ·obtain ⟨i,e1,e2⟩ := findW_at h
    exact ⟨i + 1,by omega,e2⟩
theorem wordIx_someR {w : Bytes} {k : Nat} (h : wordIx w = some k) : 1 ≤ k ∧ k ≤ 13 ∧ w = wordB k := by
 obtain ⟨i,rfl,e⟩ := findW_at h
 have hi := (List.getElem?_eq_some_iff.1 e).1
 have hl : (wordsB.drop 1).length = 13 := rfl
 rw [hl] at hi
 refine ⟨by omega,by omega,?_⟩
 rw [List.getElem?_drop] at e
 unfold wordB
 rw [List.getD_eq_getElem?_getD,e]
 rfl
theorem lexU_wordR {u : Bytes} {k : Nat} (h : (lexU u).1 = .word k) : wordIx (u.takeWhile letterB) = some k ∧ (lexU u).2 = u.dropWhile letterB ∧ u.head? ≠ some 40 := by
 cases u with
 | nil => cases h
 | cons c r =>
   rw [lexU_consR] at h ⊢
   by_cases h1 : c = 40
   ·rw [if_pos h1] at h; cases h
   rw [if_neg h1] at h ⊢
   by_cases h2 : c = 41
   ·rw [if_pos h2] at h; cases h
   rw [if_neg h2] at h ⊢
   by_cases h3 : c = 34
   ·rw [if_pos h3] at h
    split at h <;> cases h
   rw [if_neg h3] at h ⊢
   by_cases h4 : letterB c = true
   ·rw [if_pos h4] at h ⊢
    unfold runU at h ⊢
    cases hw : wordIx ((c :: r).takeWhile letterB) with
    | some j =>
      rw [hw] at h
      injection h with h
      subst h
      exact ⟨rfl,rfl,fun e => h1 (Option.some.inj e)⟩
    | none =>
      rw [hw] at h
      simp only at h
      split at h <;> cases h
   ·rw [if_neg h4] at h; cases h
theorem word_lexU {u : Bytes} {k : Nat} (h : wordIx (u.takeWhile letterB) = some k) : lexU u = (.word k,u.dropWhile letterB) := by
 cases u with
 | nil => cases h
 | cons c r =>
   rw [lexU_consR]
   have h4 : letterB c = true := by
    by_cases h4 : letterB c = true
    ·exact h4
    ·rw [List.takeWhile_cons,if_neg h4] at h; cases h
   have n1 : c ≠ 40 := by rintro rfl; cases h4
   have n2 : c ≠ 41 := by rintro rfl; cases h4
   have n3 : c ≠ 34 := by rintro rfl; cases h4
   rw [if_neg n1,if_neg n2,if_neg n3,if_pos h4]
   unfold runU
   rw [h]
theorem word_ne {u : Bytes} {k : Nat} (h1 : 1 ≤ k) (h2 : k ≤ 13) (h : (lexU u).1 ≠ .word k) : u.takeWhile letterB ≠ wordB k := fun e => by
 have := (wordB_ok k h1 h2).2.2
 rw [← e] at this
 rw [word_lexU this] at h
 exact h rfl
theorem kind_zero {u : Bytes} (h : ∀ k,(lexU u).1 ≠ .word k) : kindR (u.takeWhile letterB) = 0 := by
 unfold kindR
 cases hw : wordIx (u.takeWhile letterB) with
 | none => rfl
 | some k =>
   rw [word_lexU hw] at h
   exact absurd rfl (h k)
theorem lp_head {u : Bytes} (h : (lexU u).1 = .lp) : ∃ r,u = 40 :: r ∧ (lexU u).2 = r := by
 cases u with
 | nil => cases h
 | cons c r =>
   rw [lexU_consR] at h ⊢
   by_cases h1 : c = 40
   ·subst h1
    exact ⟨r,rfl,rfl⟩
   ·exfalso
    rw [if_neg h1] at h
    split at h
    ·cases h
    ·split at h
     ·split at h <;> cases h
     ·split at h
      ·unfold runU at h
       split at h
       ·cases h
       ·split at h <;> cases h
      ·cases h
theorem head_lp {u : Bytes} (h : (lexU u).1 ≠ .lp) : u.head? ≠ some 40 := fun e => by
 cases u with
 | nil => cases e
 | cons c r =>
   obtain rfl := Option.some.inj e
   exact h rfl
theorem rp_head {u : Bytes} (h : (lexU u).1 = .rp) : ∃ r,u = 41 :: r ∧ (lexU u).2 = r := by
 cases u with
 | nil => cases h
 | cons c r =>
   rw [lexU_consR] at h ⊢
   by_cases h1 : c = 40
   ·rw [if_pos h1] at h; cases h
   rw [if_neg h1] at h ⊢
   by_cases h2 : c = 41
   ·subst h2
    exact ⟨r,rfl,rfl⟩
   ·exfalso
    rw [if_neg h2] at h
    split at h
    ·split at h <;> cases h
    ·split at h
     ·unfold runU at h
      split at h
      ·cases h
      ·split at h <;> cases h
     ·cases h
theorem close_bad {u : Bytes} (h : (lexU (unbl u)).1 ≠ .rp) (q : Qy) (b : Bool) : closeR q u b = (q,unbl u,true) := by
 unfold closeR
 split
 ·rfl
 ·split
  ·rename_i e; rw [e]
  ·rename_i c r e
   split
   ·rename_i hc
    subst hc
    rw [e] at h
    exact absurd rfl h
   ·rw [e]
theorem str_text {u : Bytes} : (∀ t,(lexU (unbl u)).1 = .str t → textR u = (t,(lexU (unbl u)).2,false)) ∧ ((∀ t,(lexU (unbl u)).1 ≠ .str t) → textR u = ([],unbl u,true)) := by
 unfold textR
 cases hu : unbl u with
 | nil => exact ⟨fun t h => (by cases h),fun _ => rfl⟩
 | cons c r =>
   by_cases h3 : c = 34
   ·subst h3
    simp only [if_true]
    have e : lexU (34 :: r) = (match strGo r with
     | some p => (.str p.1,p.2)
     | none => (.bad,[])) := rfl
    rw [e]
    cases strGo r with
    | some p => exact ⟨fun t h => by injection h with h; subst h; rfl,fun h => absurd rfl (h p.1)⟩
    | none => exact ⟨fun t h => (by cases h),fun _ => rfl⟩
   ·simp only [if_neg h3]
    refine ⟨fun t h => ?_,fun _ => trivial⟩
    exfalso
    rw [lexU_consR] at h
    split at h
    ·cases h
    ·split at h
     ·cases h
     ·split at h
      ·unfold runU at h
       split at h
       ·cases h
       ·split at h <;> cases h
      ·cases h
theorem num_number {u : Bytes} : (∀ n,(lexU (unbl u)).1 = .num n → numberR u = (n,(lexU (unbl u)).2,false)) ∧ ((∀ n,(lexU (unbl u)).1 ≠ .num n) → numberR u = (0,unbl u,true)) := by
 unfold numberR
 rw [numR_eq (takeAllT _)]
 generalize unbl u = v
 have none_ : v.takeWhile letterB = [] → numT (v.takeWhile letterB) = none := fun e => by
  cases hT : numT (v.takeWhile letterB) with
  | none => rfl
  | some n => exact absurd ((numT_some hT).1.symm.trans e) (itoa_ne n)
 have empty : ∀ c r,v = c :: r → letterB c ≠ true → v.takeWhile letterB = [] := fun c r e h => by rw [e,List.takeWhile_cons,if_neg h]
 cases hv : v with
 | nil => exact ⟨fun n h => (by cases h),fun _ => by rw [← hv,none_ (by rw [hv]; rfl)]⟩
 | cons c r =>
   by_cases h4 : letterB c = true
   ·have n1 : c ≠ 40 := by rintro rfl; cases h4
    have n2 : c ≠ 41 := by rintro rfl; cases h4
    have n3 : c ≠ 34 := by rintro rfl; cases h4
    have e : lexU (c :: r) = runU (c :: r) := by rw [lexU_consR,if_neg n1,if_neg n2,if_neg n3,if_pos h4]
    rw [e]
    unfold runU
    cases hw : wordIx ((c :: r).takeWhile letterB) with
    | some k =>
      have hT : numT ((c :: r).takeWhile letterB) = none := by
       cases hT : numT ((c :: r).takeWhile letterB) with
       | none => rfl
       | some n =>
         have e2 := (numT_some hT).1
         rw [e2,digits_noword (itoa_ne n) (itoa_digits _ (by omega))] at hw
         cases hw
      rw [hT]
      exact ⟨fun n h => (by cases h),fun _ => rfl⟩
    | none =>
      cases hT : numT ((c :: r).takeWhile letterB) with
      | none => exact ⟨fun n h => (by cases h),fun _ => rfl⟩
      | some m => exact ⟨fun n h => by injection h with h; subst h; rfl,fun h => absurd rfl (h m)⟩
   ·have e0 := empty c r hv h4
    have hT := none_ e0
    rw [← hv,hT]
    refine ⟨fun n h => ?_,fun _ => rfl⟩
    exfalso
    rw [hv,lexU_consR] at h
    split at h
    ·cases h
    ·split at h
     ·cases h
     ·split at h
      ·split at h <;> cases h
      ·cases h
theorem lexU_stop' {u : Bytes} (h : (lexU u).1 = .stop) : u = [] := by
 cases u with
 | nil => rfl
 | cons c r =>
   rw [lexU_consR] at h
   split at h
   ·cases h
   ·split at h
    ·cases h
    ·split at h
     ·split at h <;> cases h
     ·split at h
      ·unfold runU at h
       split at h
       ·cases h
       ·split at h <;> cases h
      ·cases h
def Md.toR : Md → MR
 | .unit => .unit
 | .conj => .chain 10
 | .disj => .chain 11
 | .andL q => .loop 10 q false
 | .orL q => .loop 11 q false
def AgreeAt (f : Nat) : Prop := ∀ (m : Md) (u : Bytes) (r : PR (Bytes × Bytes)),okT (toks u) (goT f m) = some r → ∃ x,goR (f + 3) m.toR u = some x ∧ RelR r x
def Mu (K : Nat) : Md := if K = 11 then .conj else .unit
def Ml (K : Nat) (q : Qy) : Md := if K = 11 then .orL q else .andL q
theorem loop_stop {f K : Nat} (h1 : 1 ≤ K) (h2 : K ≤ 13) {q : Qy} {u : Bytes} (h : (lexU (unbl u)).1 ≠ .word K) : goR (f + 1) (.loop K q false) u = some (q,u,false) := by
 show (if false = true then _ else if (unbl u).takeWhile letterB ≠ wordB K then _ else _) = _
 rw [if_neg (by simp),if_pos (word_ne h1 h2 h)]
theorem unit_stop {f : Nat} {u : Bytes} (h : (lexU (unbl u)).1 ≠ .lp) (h2 : ∀ k,(lexU (unbl u)).1 ≠ .word k) : goR (f + 1) .unit u = some (.mk (0 : Nat) [] 0 [],unbl u,true) := by
 unfold goR
 rw [if_neg (head_lp h),kind_zero h2,if_pos (.inl rfl)]
theorem agree_bad {u : Bytes} (hb : (lexU (unbl u)).1 = .bad) (b : Bytes) (f : Nat) (m : Md) : ∃ x,goR (f + 3) m.toR u = some x ∧ RelR (.err (unbl u,b)) x := by
 have hu : ∀ f,goR (f + 1) .unit u = some (.mk (0 : Nat) [] 0 [],unbl u,true) := fun f => unit_stop (by rw [hb]; simp) (by rw [hb]; simp)
 have hc : ∀ f,goR (f + 2) (.chain 10) u = some (.mk (0 : Nat) [] 0 [],unbl u,true) := fun f => by
  show (match goR (f + 1) .unit u with
   | some (q,w,b) => goR (f + 1) (.loop 10 q b) w
   | none => none) = _
  rw [hu]
  rfl
 have hd : ∀ f,goR (f + 3) (.chain 11) u = some (.mk (0 : Nat) [] 0 [],unbl u,true) := fun f => by
  show (match goR (f + 2) (.chain 10) u with
   | some (q,w,b) => goR (f + 2) (.loop 11 q b) w
   | none => none) = _
  rw [hc]
  rfl
 have hl : ∀ q,RelR (.err (unbl u,b)) (q,u,false) := fun q => .inr ⟨rfl,rfl,hb⟩
 cases m with
 | unit => exact ⟨_,hu (f + 2),rel_err u b _⟩
 | conj => exact ⟨_,hc (f + 1),rel_err u b _⟩
 | disj => exact ⟨_,hd f,rel_err u b _⟩
 | andL q => exact ⟨_,loop_stop (f := f + 2) (by decide) (by decide) (by rw [hb]; simp),hl _⟩
 | orL q => exact ⟨_,loop_stop (f := f + 2) (by decide) (by decide) (by rw [hb]; simp),hl _⟩
theorem link_loop {f : Nat} (ih : AgreeAt f) {K : Nat} (hK : K = 10 ∨ K = 11) (g : Qy → Qy) {u : Bytes} {r : PR (Bytes × Bytes)} (h : bindT (okT (toks u) (goT f (Mu K))) (fun x l => goT f (Ml K (g x)) l) = some r) :
 ∃ x,(match goR (f + 3) (linkM K) u with
   | some (x,w,b) => goR (f + 3) (.loop K (g x) b) w
   | none => none) = some x ∧ RelR r x := by
 have hM : (Mu K).toR = linkM K := by rcases hK with rfl | rfl <;> rfl
 have hL : ∀ q,(Ml K q).toR = .loop K q false := by intro q; rcases hK with rfl | rfl <;> rfl
 rcases bindT_inv h with ⟨a,h1,rfl⟩ | ⟨p,l,h1,h2⟩
 ·obtain ⟨⟨q,w,b⟩,e,hr⟩ := ih _ _ _ h1
  rw [hM] at e
  rw [e]
  rcases hr with ⟨h5,h6,h3⟩ | ⟨h5,h3,h4⟩
  ·obtain rfl : b = true := h5
   exact ⟨_,rfl,.inl ⟨rfl,h6,h3⟩⟩
  ·obtain rfl : b = false := h5
   have h3 : unbl w = a.1 := h3
   exact ⟨_,loop_stop (f := f + 2) (by omega) (by omega) (by rw [h3,h4]; simp),.inr ⟨rfl,h3,h4⟩⟩
 ·obtain ⟨⟨q,w,b⟩,e,e1,e2,e3,e4⟩ := ih _ _ _ h1
  obtain rfl : q = p := e1
  obtain rfl : b = false := e2
  rw [hM] at e
  rw [e]
  have e3 : l = toks w := e3
  subst e3
  have h5 : okT (toks w) (goT f (Ml K (g q))) = some r := by rw [okT_hd e4]; exact h2
  obtain ⟨x,g1,g2⟩ := ih _ _ _ h5
  rw [hL] at g1
  exact ⟨x,g1,g2⟩
theorem agree_loop {f : Nat} (ih : AgreeAt f) {K : Nat} (hK : K = 10 ∨ K = 11) (q : Qy) {u : Bytes} {r : PR (Bytes × Bytes)} (h : okT (toks u) (goT (f + 1) (Ml K q)) = some r) : ∃ x,goR (f + 4) (.loop K q false) u = some x ∧ RelR r x := by
 have h1 : 1 ≤ K := by omega
 have h2 : K ≤ 13 := by omega
 rcases okT_toks h with ⟨hb,rfl⟩ | ⟨hd,h3⟩
 ·exact ⟨_,loop_stop (f := f + 3) h1 h2 (by rw [hb]; simp),rel_bad hb q⟩
 ·by_cases hw : (lexU (unbl u)).1 = .word K
  ·obtain ⟨l,e,hl⟩ := toks_head u
   obtain ⟨w1,w2,-⟩ := lexU_wordR hw
   have hl := hl (by rw [hw]; rfl)
   have h4 : okT (toks ((unbl u).dropWhile letterB)) (fun l => bindT (goT f (Mu K) l) fun x l => goT f (Ml K (.mk K [] 0 [q,x])) l) = some r := by
    rw [e,hw,hl,w2] at h3
    rcases hK with rfl | rfl <;> exact h3
   rw [okT_bind] at h4
   obtain ⟨x,g1,g2⟩ := link_loop ih hK (fun x => .mk K [] 0 [q,x]) h4
   refine ⟨x,?_,g2⟩
   show (if false = true then _ else if (unbl u).takeWhile letterB ≠ wordB K then _ else _) = _
   rw [if_neg (by simp),if_neg (by rw [(wordIx_someR w1).2.2]; simp)]
   exact g1
  ·have e : goT (f + 1) (Ml K q) (toks u) = some (.ok q (toks u)) := by
    obtain ⟨l,e,-⟩ := toks_head u
    rcases hK with rfl | rfl
    ·refine andL_out ?_
     rintro ⟨a,l',e2⟩
     rw [e] at e2
     injection e2 with e2 _
     injection e2 with e2 _
     exact hw e2
    ·refine orL_out ?_
     rintro ⟨a,l',e2⟩
     rw [e] at e2
     injection e2 with e2 _
     injection e2 with e2 _
     exact hw e2
   rw [e] at h3
   obtain rfl := Option.some.inj h3
   exact ⟨_,loop_stop (f := f + 3) h1 h2 hw,rfl,rfl,rfl,hd⟩
theorem agree_close {q : Qy} {u : Bytes} {r : PR (Bytes × Bytes)} (h : rparT q (toks u) = some r) : RelR r (closeR q u false) := by
 obtain ⟨l,e,hl⟩ := toks_head u
 by_cases hr : (lexU (unbl u)).1 = .rp
 ·obtain ⟨v,e2,e3⟩ := rp_head hr
  have hl := hl (by rw [hr]; rfl)
  rw [e,hr,hl,e3] at h
  have h : okT (toks v) (fun l => some (.ok q l)) = some r := h
  have e4 : closeR q u false = (q,v,false) := by
   unfold closeR
   rw [if_neg (by simp),e2]
   rfl
  rw [e4]
  exact rel_ok h
 ·rw [close_bad hr]
  rw [e] at h
  have h : some (PR.err (unbl u,(lexU (unbl u)).2)) = some r := by
   rw [← h]
   cases hq : (lexU (unbl u)).1 <;> first | rfl | exact absurd hq hr
  obtain rfl := Option.some.inj h
  exact rel_err u _ q
theorem agree_paren {f : Nat} (ih : AgreeAt f) {u v : Bytes} (hu : unbl u = 40 :: v) {r : PR (Bytes × Bytes)} (h : okT (toks v) (fun l => bindT (goT f .disj l) rparT) = some r) : ∃ x,goR (f + 4) .unit u = some x ∧ RelR r x := by
 rw [okT_bind] at h
 have e0 : goR (f + 4) .unit u = match goR (f + 3) (.chain 11) v with
  | some (q,w,b) => some (closeR q w b)
  | none => none := by
  show (if (unbl u).head? = some 40 then _ else _) = _
  rw [hu,if_pos (show (40 :: v : Bytes).head? = some 40 from rfl)]
  rfl
 rw [e0]
 rcases bindT_inv h with ⟨a,h1,rfl⟩ | ⟨p,l,h1,h2⟩
 ·obtain ⟨⟨q,w,b⟩,e,hr⟩ := ih .disj _ _ h1
  have e : goR (f + 3) (.chain 11) v = _ := e
  rw [e]
  rcases hr with ⟨h5,h6,h3⟩ | ⟨h5,h3,h4⟩
  ·obtain rfl : b = true := h5
   obtain rfl : w = a.1 := h6
   refine ⟨_,rfl,.inl ⟨rfl,?_,h3⟩⟩
   show (closeR q a.1 true).2.1 = a.1
   unfold closeR
   rw [if_pos rfl]
   exact h3
  ·obtain rfl : b = false := h5
   have h3 : unbl w = a.1 := h3
   refine ⟨_,rfl,?_⟩
   rw [close_bad (by rw [h3,h4]; simp)]
   exact .inl ⟨rfl,h3,by rw [← h3]; exact unbl_unbl w⟩
 ·obtain ⟨⟨q,w,b⟩,e,e1,e2,e3,e4⟩ := ih .disj _ _ h1
  have e : goR (f + 3) (.chain 11) v = _ := e
  obtain rfl : q = p := e1
  obtain rfl : b = false := e2
  rw [e]
  have e3 : l = toks w := e3
  subst e3
  exact ⟨_,rfl,agree_close h2⟩
theorem agree_worded {f : Nat} (ih : AgreeAt f) (k : Nat) {u : Bytes} {r : PR (Bytes × Bytes)} (h : okT (toks u) (fun l => simpT (goT f .unit) k l) = some r) : ∃ x,wordedR (goR (f + 3) .unit) k u = some x ∧ RelR r x := by
 unfold wordedR
 unfold simpT at h
 by_cases h1 : opersN k = 1
 ·have hk := oper1 h1
  rw [if_neg (by rcases hk with rfl | rfl | rfl <;> decide),if_neg (by rcases hk with rfl | rfl | rfl <;> decide),if_pos h1]
  simp only [if_pos h1] at h
  rw [okT_bind] at h
  rcases bindT_inv h with ⟨a,h1,rfl⟩ | ⟨p,l,h1,h2⟩
  ·obtain ⟨⟨q,w,b⟩,e,hr⟩ := ih .unit _ _ h1
   have e : goR (f + 3) .unit u = _ := e
   rw [e]
   exact ⟨_,rfl,hr⟩
  ·obtain ⟨⟨q,w,b⟩,e,e1,e2,e3,e4⟩ := ih .unit _ _ h1
   have e : goR (f + 3) .unit u = _ := e
   obtain rfl : q = p := e1
   rw [e]
   obtain rfl := Option.some.inj h2
   exact ⟨_,rfl,rfl,e2,e3,e4⟩
 ·simp only [if_neg h1] at h
  by_cases h2 : textualN k = true
  ·rw [if_pos h2]
   simp only [if_pos h2] at h
   refine ⟨_,rfl,?_⟩
   rcases okT_toks h with ⟨hb,rfl⟩ | ⟨hd,h3⟩
   ·rw [str_text.2 (by rw [hb]; simp)]
    exact rel_err u _ _
   ·obtain ⟨l,e,hl⟩ := toks_head u
    by_cases hs : ∃ t,(lexU (unbl u)).1 = .str t
    ·obtain ⟨t,hs⟩ := hs
     have hl := hl (by rw [hs]; rfl)
     rw [e,hs,hl] at h3
     rw [str_text.1 t hs]
     exact rel_ok h3
    ·have hs : ∀ t,(lexU (unbl u)).1 ≠ .str t := fun t e => hs ⟨t,e⟩
     rw [str_text.2 hs]
     rw [e] at h3
     have h3 : some (PR.err (unbl u,(lexU (unbl u)).2)) = some r := by
      rw [← h3]
      cases hq : (lexU (unbl u)).1 <;> first | rfl | exact absurd hq (hs _)
     obtain rfl := Option.some.inj h3
     exact rel_err u _ _
  ·rw [if_neg h2]
   simp only [if_neg h2] at h
   by_cases h4 : numericN k = true
   ·rw [if_pos h4]
    simp only [if_pos h4] at h
    refine ⟨_,rfl,?_⟩
    rcases okT_toks h with ⟨hb,rfl⟩ | ⟨hd,h3⟩
    ·rw [num_number.2 (by rw [hb]; simp)]
     exact rel_err u _ _
    ·obtain ⟨l,e,hl⟩ := toks_head u
     by_cases hs : ∃ t,(lexU (unbl u)).1 = .num t
     ·obtain ⟨t,hs⟩ := hs
      have hl := hl (by rw [hs]; rfl)
      rw [e,hs,hl] at h3
      rw [num_number.1 t hs]
      exact rel_ok h3
     ·have hs : ∀ t,(lexU (unbl u)).1 ≠ .num t := fun t e => hs ⟨t,e⟩
      rw [num_number.2 hs]
      rw [e] at h3
      have h3 : some (PR.err (unbl u,(lexU (unbl u)).2)) = some r := by
       rw [← h3]
       cases hq : (lexU (unbl u)).1 <;> first | rfl | exact absurd hq (hs _)
      obtain rfl := Option.some.inj h3
      exact rel_err u _ _
   ·rw [if_neg h4,if_neg h1]
    simp only [if_neg h4] at h
    exact ⟨_,rfl,rel_ok h⟩
theorem agree_unit {f : Nat} (ih : AgreeAt f) {u : Bytes} {r : PR (Bytes × Bytes)} (h : okT (toks u) (goT (f + 1) .unit) = some r) : ∃ x,goR (f + 4) .unit u = some x ∧ RelR r x := by
 rcases okT_toks h with ⟨hb,rfl⟩ | ⟨hd,h3⟩
 ·exact agree_bad hb _ (f + 1) .unit
 obtain ⟨l,e,hl⟩ := toks_head u
 have err : (lexU (unbl u)).1 ≠ .lp → (∀ k,(lexU (unbl u)).1 ≠ .word k) → r = .err (unbl u,(lexU (unbl u)).2) → ∃ x,goR (f + 4) .unit u = some x ∧ RelR r x := fun n1 n2 er => by
  subst er
  exact ⟨_,unit_stop (f := f + 3) n1 n2,rel_err u _ _⟩
 rw [e] at h3
 cases hq : (lexU (unbl u)).1 with
 | lp =>
   obtain ⟨v,e2,e3⟩ := lp_head hq
   have hl := hl (by rw [hq]; rfl)
   rw [hq,hl,e3] at h3
   exact agree_paren ih e2 h3
 | word k =>
   obtain ⟨w1,w2,w3⟩ := lexU_wordR hq
   obtain ⟨k1,k2,k3⟩ := wordIx_someR w1
   have hl := hl (by rw [hq]; rfl)
   rw [hq,hl,w2] at h3
   have hkr : kindR ((unbl u).takeWhile letterB) = k := by unfold kindR; rw [w1]; rfl
   by_cases hk : opersN k = 2
   ·simp only [goT,if_pos hk] at h3
    obtain rfl := Option.some.inj h3
    have := oper2 hk
    refine ⟨(.mk k [] 0 [],unbl u,true),?_,rel_err u _ _⟩
    unfold goR
    rw [if_neg w3,hkr,if_pos (.inr this)]
   ·simp only [goT,if_neg hk] at h3
    obtain ⟨x,g1,g2⟩ := agree_worded ih k h3
    refine ⟨x,?_,g2⟩
    rw [show f + 4 = (f + 3) + 1 from rfl]
    unfold goR
    rw [if_neg w3,hkr,if_neg (by rintro (h | h | h) <;> first | omega | exact hk (by rw [h]; rfl))]
    exact g1
 | stop => rw [hq] at h3; exact err (by rw [hq]; simp) (by rw [hq]; simp) (by rw [← hq] at h3; exact (Option.some.inj (by rw [← h3,hq]; rfl)))
 | bad => rw [hq] at h3; exact err (by rw [hq]; simp) (by rw [hq]; simp) (Option.some.inj (h3.symm.trans rfl))
 | num n => rw [hq] at h3; exact err (by rw [hq]; simp) (by rw [hq]; simp) (Option.some.inj (h3.symm.trans rfl))
 | str t => rw [hq] at h3; exact err (by rw [hq]; simp) (by rw [hq]; simp) (Option.some.inj (h3.symm.trans rfl))
 | rp => rw [hq] at h3; exact err (by rw [hq]; simp) (by rw [hq]; simp) (Option.some.inj (h3.symm.trans rfl))
theorem agree : ∀ f,AgreeAt f
 | 0 => fun m u r h => by
   rcases okT_toks h with ⟨hb,rfl⟩ | ⟨hd,h3⟩
   ·exact agree_bad hb _ 0 m
   ·cases h3
 | f + 1 => fun m u r h => by
   have ih := agree f
   cases m with
   | unit => exact agree_unit ih h
   | conj =>
     have h : okT (toks u) (fun l => bindT (goT f (Mu 10) l) fun x l => goT f (Ml 10 x) l) = some r := h
     rw [okT_bind] at h
     exact link_loop ih (.inl rfl) (fun x => x) h
   | disj =>
     have h : okT (toks u) (fun l => bindT (goT f (Mu 11) l) fun x l => goT f (Ml 11 x) l) = some r := h
     rw [okT_bind] at h
     exact link_loop ih (.inr rfl) (fun x => x) h
   | andL q => exact agree_loop ih (.inl rfl) q h
   | orL q => exact agree_loop ih (.inr rfl) q h
theorem agree_all (s : Bytes) : ∃ F q w b,goR F (.chain 11) s = some (q,w,b) ∧
 ((b = false ∧ unbl w = [] ∧ allT (toks s) = some (.ok q [])) ∨
  (∃ a,allT (toks s) = some (.err a) ∧ ((b = true ∧ w = a.1) ∨ (b = false ∧ unbl w = a.1 ∧ a.1 ≠ [])))) := by
 have hne := allT_ok (toks_ok _ s (Nat.le_refl _))
 rw [allT_eq] at hne
 have he : okT (toks s) (fun l => bindT (goT (3 * l.length + 3) .disj l) endK) = okT (toks s) (fun l => bindT (goT (3 * (toks s).length + 3) .disj l) endK) := by
  match toks s with
  | [] => rfl
  | (t,a) :: l => cases t <;> rfl
 rw [allT_eq,he]
 rw [he] at hne
 generalize 3 * (toks s).length + 3 = G at hne ⊢
 rw [okT_bind] at hne ⊢
 cases h1 : okT (toks s) (goT G .disj) with
 | none => rw [h1] at hne; exact absurd rfl hne
 | some r =>
   obtain ⟨⟨q,w,b⟩,e,hr⟩ := agree G .disj s r h1
   refine ⟨G + 3,q,w,b,e,?_⟩
   cases r with
   | err a =>
     refine .inr ⟨a,rfl,?_⟩
     rcases hr with ⟨h5,h6,h3⟩ | ⟨h5,h3,h4⟩
     ·exact .inl ⟨h5,h6⟩
     ·exact .inr ⟨h5,h3,fun e => by rw [e] at h4; cases h4⟩
   | ok p l =>
     obtain ⟨e1,e2,e3,e4⟩ := hr
     obtain rfl : q = p := e1
     obtain rfl : b = false := e2
     have e3 : l = toks w := e3
     subst e3
     obtain ⟨l,e,-⟩ := toks_head w
     show (_ ∧ _ ∧ endK q (toks w) = _) ∨ ∃ a,endK q (toks w) = _ ∧ _
     by_cases hs : (lexU (unbl w)).1 = .stop
     ·have hw : unbl w = [] := lexU_stop' hs
      refine .inl ⟨rfl,hw,?_⟩
      rw [e,hs]
      rfl
     ·refine .inr ⟨(unbl w,(lexU (unbl w)).2),?_,.inr ⟨rfl,rfl,fun h => hs (by rw [show unbl w = [] from h]; rfl)⟩⟩
      rw [e]
      cases hq : (lexU (unbl w)).1 <;> first | rfl | exact absurd hq hs
end Qv

end
