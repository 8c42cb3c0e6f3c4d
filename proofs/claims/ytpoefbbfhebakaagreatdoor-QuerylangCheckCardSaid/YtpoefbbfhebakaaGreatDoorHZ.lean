/- Several texts in one: The language of queries in plain terms: the printed text of what is read is not much longer than the text that was read and what follows. No condition. -/
import Derived.Test.YtpoefbbfhebakaaGreatDoorHX
import Derived.Test.YtpoefbbfhebakaaGreatDoorHN
import Derived.Lib.ItoaLen
import Derived.Test.YtpoefbbfhebakaaGreatDoorHY
set_option linter.unusedVariables false
set_option linter.unusedSimpArgs false

section
open Go Go.RowKit
namespace Qv
def wTk : Tk → Nat
 | .word _ => 20
 | .num n => (Lib.itoa (n : Int)).length + 1
 | .str t => 2 * t.length + 3
 | _ => 0
def wL {α : Type} : List (Tk × α) → Nat
 | [] => 0
 | x :: l => wTk x.1 + wL l
theorem wordB_len7 (k : Nat) : (wordB k).length ≤ 7 := by
 match k with
 | 0 | 1 | 2 | 3 | 4 | 5 | 6 | 7 | 8 | 9 | 10 | 11 | 12 | 13 => decide
 | k + 14 => exact Nat.zero_le _
theorem escQ_le (t : Bytes) : (escQ t).length ≤ 2 * t.length := by
 induction t with
 | nil => exact Nat.le_refl _
 | cons c t ih =>
   unfold escQ
   split <;> simp <;> omega
section
variable {α : Type}
def PRw (n : Nat) : Option (PR α) → Prop
 | some (.ok q l) => (textQ q).length + wL l ≤ n
 | _ => True
theorem PRw.le {n m : Nat} {x : Option (PR α)} (h : PRw n x) (hm : n ≤ m) : PRw m x := by
 match x,h with
 | some (.ok q l),h => exact Nat.le_trans h hm
 | some (.err a),_ => exact trivial
 | none,_ => exact trivial
theorem okT_w {n : Nat} {l : List (Tk × α)} {K : List (Tk × α) → Option (PR α)} (hK : PRw n (K l)) : PRw n (okT l K) := by
 match l,hK with
 | [],_ => exact trivial
 | (t,a) :: l,hK => cases t <;> first | exact hK | exact trivial
theorem bindT_w {n m : Nat} {x : Option (PR α)} {K : Qy → List (Tk × α) → Option (PR α)} (h : PRw n x) (hK : ∀ q l,(textQ q).length + wL l ≤ n → PRw m (K q l)) : PRw m (bindT x K) := by
 match x,h with
 | some (.ok q l),h => exact hK q l h
 | some (.err a),_ => exact trivial
 | none,_ => exact trivial
theorem rparT_w {n : Nat} {q : Qy} {l : List (Tk × α)} (h : (textQ q).length + wL l ≤ n) : PRw n (rparT q l) := by
 match l,h with
 | [],_ => exact trivial
 | (t,a) :: l,h =>
   cases t
   case rp => exact okT_w (K := fun l => some (.ok q l)) (by show (textQ q).length + wL l ≤ n; have : wL ((Tk.rp,a) :: l) = 0 + wL l := rfl; omega)
   all_goals exact trivial
theorem simpT_w {u : List (Tk × α) → Option (PR α)} {k : Nat} {l : List (Tk × α)} (hk : opersN k ≠ 2) (hu : PRw (wL l) (u l)) : PRw (wL l + 20) (simpT u k l) := by
 have hw := wordB_len7 k
 unfold simpT
 split
 ·rename_i h1
  refine bindT_w hu fun q l' hq => ?_
  show (textQ (.mk k [] 0 [q])).length + wL l' ≤ wL l + 20
  rw [(textQ_one k q h1).1]
  simp only [List.length_append,List.length_singleton]
  omega
 ·rename_i h1
  split
  ·rename_i h2
   clear hu
   match l with
   | [] => exact trivial
   | (t,a) :: l =>
     cases t
     case str t =>
      refine okT_w (K := fun l => some (.ok (.mk k t 0 []) l)) ?_
      show (textQ (.mk k t 0 [])).length + wL l ≤ wL ((Tk.str t,a) :: l) + 20
      have e : wL ((Tk.str t,a) :: l) = 2 * t.length + 3 + wL l := rfl
      have := escQ_le t
      rw [(textQ_text k t h2).1,e]
      simp only [quoteQ,List.length_append,List.length_singleton]
      omega
     all_goals exact trivial
  ·rename_i h2
   split
   ·rename_i h3
    clear hu
    match l with
    | [] => exact trivial
    | (t,a) :: l =>
      cases t
      case num n =>
       refine okT_w (K := fun l => some (.ok (.mk k [] n []) l)) ?_
       show (textQ (.mk k [] n [])).length + wL l ≤ wL ((Tk.num n,a) :: l) + 20
       have e : wL ((Tk.num n,a) :: l) = (Lib.itoa (n : Int)).length + 1 + wL l := rfl
       rw [(textQ_num k n h3).1,e]
       simp only [List.length_append,List.length_singleton]
       omega
      all_goals exact trivial
   ·rename_i h3
    have e : textQ (.mk k [] 0 []) = wordB k := by
     unfold textQ
     have h2' : textualN k = false := by simpa using h2
     have h3' : numericN k = false := by simpa using h3
     simp [h1,h2',h3',hk]
    show (textQ (.mk k [] 0 [])).length + wL l ≤ wL l + 20
    rw [e]
    omega
def Md.w : Md → Nat
 | .andL q => (textQ q).length
 | .orL q => (textQ q).length
 | _ => 0
theorem goT_w : ∀ (f : Nat) (m : Md) (l : List (Tk × α)),PRw (m.w + wL l) (goT f m l) := by
 intro f
 induction f with
 | zero => intro m l; exact trivial
 | succ f ih =>
   intro m l
   have i0 : ∀ l,PRw (wL l) (goT f .unit l) := fun l => (ih .unit l).le (by show 0 + wL l ≤ wL l; omega)
   have i1 : ∀ l,PRw (wL l) (goT f .conj l) := fun l => (ih .conj l).le (by show 0 + wL l ≤ wL l; omega)
   have i2 : ∀ l,PRw (wL l) (goT f .disj l) := fun l => (ih .disj l).le (by show 0 + wL l ≤ wL l; omega)
   cases m with
   | unit =>
     match l with
     | [] => exact trivial
     | (t,a) :: l =>
       cases t
       case lp =>
        refine PRw.le (n := wL l) ?_ (by show wL l ≤ 0 + (0 + wL l); omega)
        exact okT_w (K := fun l => bindT (goT f .disj l) rparT) (bindT_w (i2 l) fun q l' hq => rparT_w hq)
       case word k =>
        by_cases hk : opersN k = 2
        ·simp only [goT,if_pos hk]; exact trivial
        ·simp only [goT,if_neg hk]
         refine PRw.le (n := wL l + 20) ?_ (by show wL l + 20 ≤ 0 + (20 + wL l); omega)
         exact okT_w (K := fun l => simpT (goT f .unit) k l) (simpT_w hk (i0 l))
       all_goals exact trivial
   | conj =>
     refine PRw.le (n := wL l) ?_ (by show wL l ≤ 0 + wL l; omega)
     exact bindT_w (K := fun q l => goT f (.andL q) l) (i0 l) fun q l' hq => (ih (.andL q) l').le hq
   | disj =>
     refine PRw.le (n := wL l) ?_ (by show wL l ≤ 0 + wL l; omega)
     exact bindT_w (K := fun q l => goT f (.orL q) l) (i1 l) fun q l' hq => (ih (.orL q) l').le hq
   | andL q =>
     by_cases hl : ∃ a l',l = (.word 10,a) :: l'
     ·obtain ⟨a,l',rfl⟩ := hl
      refine okT_w (K := fun l => bindT (goT f .unit l) fun x l => goT f (.andL (.mk 10 [] 0 [q,x])) l) (bindT_w (i0 l') fun x l2 hx => (ih (.andL (.mk 10 [] 0 [q,x])) l2).le ?_)
      show (textQ (.mk 10 [] 0 [q,x])).length + wL l2 ≤ (textQ q).length + (20 + wL l')
      rw [show (Qy.mk 10 [] 0 [q,x]) = .mk ((10 : Nat) : Int) [] 0 [q,x] from rfl,(textQ_two 10 q x rfl).1]
      have := wordB_len7 10
      simp only [List.length_append,List.length_singleton]
      omega
     ·rw [andL_out hl]
      exact Nat.le_refl _
   | orL q =>
     by_cases hl : ∃ a l',l = (.word 11,a) :: l'
     ·obtain ⟨a,l',rfl⟩ := hl
      refine okT_w (K := fun l => bindT (goT f .conj l) fun x l => goT f (.orL (.mk 11 [] 0 [q,x])) l) (bindT_w (i1 l') fun x l2 hx => (ih (.orL (.mk 11 [] 0 [q,x])) l2).le ?_)
      show (textQ (.mk 11 [] 0 [q,x])).length + wL l2 ≤ (textQ q).length + (20 + wL l')
      rw [show (Qy.mk 11 [] 0 [q,x]) = .mk ((11 : Nat) : Int) [] 0 [q,x] from rfl,(textQ_two 11 q x rfl).1]
      have := wordB_len7 11
      simp only [List.length_append,List.length_singleton]
      omega
     ·rw [orL_out hl]
      exact Nat.le_refl _
theorem allT_w {l l' : List (Tk × α)} {q : Qy} (hr : allT l = some (.ok q l')) : (textQ q).length ≤ wL l := by
 have h1 : ∀ l : List (Tk × α),PRw (wL l) (goT (3 * l.length + 3) .disj l) := fun l => (goT_w (3 * l.length + 3) .disj l).le (by show 0 + wL l ≤ wL l; omega)
 have : PRw (wL l) (allT l) := okT_w (K := fun l => bindT (goT (3 * l.length + 3) .disj l) endK) (bindT_w (h1 l) fun q l2 hq => by
  match l2,hq with
  | [],_ => exact trivial
  | (t,a) :: l2,hq =>
    cases t
    case stop => show (textQ q).length + 0 ≤ wL l; omega
    all_goals exact trivial)
 rw [hr] at this
 have this : (textQ q).length + wL l' ≤ wL l := this
 omega
end
theorem strGo_sum : ∀ {r : Bytes} {p : Bytes × Bytes},strGo r = some p → p.1.length + p.2.length + 1 ≤ r.length
 | [],p,h => by cases h
 | c :: r,p,h => by
   unfold strGo at h
   split at h
   ·obtain rfl := Option.some.inj h; simp
   ·split at h
    ·match r,h with
     | [],h => cases h
     | d :: r,h =>
       simp only at h
       split at h
       ·cases hq : strGo r with
        | none => rw [hq] at h; cases h
        | some q =>
          rw [hq] at h
          obtain rfl := Option.some.inj h
          have := strGo_sum hq
          simp; omega
       ·cases h
    ·cases hq : strGo r with
     | none => rw [hq] at h; cases h
     | some q =>
       rw [hq] at h
       obtain rfl := Option.some.inj h
       have := strGo_sum hq
       simp; omega
theorem lexU_w {u : Bytes} (h : (lexU u).1.isEnd = false) : wTk (lexU u).1 + 20 * (lexU u).2.length ≤ 20 * u.length := by
 have hlt := lexU_lt h
 cases u with
 | nil => cases h
 | cons c r =>
   have hx : lexU (c :: r) = (if c = 40 then (.lp,r) else if c = 41 then (.rp,r)
    else if c = 34 then (match strGo r with
     | some p => (.str p.1,p.2)
     | none => (.bad,[]))
    else if letterB c = true then runU (c :: r) else (.bad,[])) := rfl
   generalize hL : lexU (c :: r) = L at h hlt hx ⊢
   split at hx
   ·subst hx; show 0 + 20 * r.length ≤ _; simp; omega
   ·split at hx
    ·subst hx; show 0 + 20 * r.length ≤ _; simp; omega
    ·split at hx
     ·cases hs : strGo r with
      | none => rw [hs] at hx; subst hx; cases h
      | some p =>
        rw [hs] at hx
        subst hx
        have := strGo_sum hs
        show 2 * p.1.length + 3 + 20 * p.2.length ≤ 20 * (c :: r).length
        simp only [List.length_cons]
        omega
     ·split at hx
      ·subst hx
       unfold runU at h hlt ⊢
       split
       ·rename_i hw
        rw [hw] at hlt
        simp only at hlt
        have hlt : ((c :: r).dropWhile letterB).length < (c :: r).length := hlt
        show 20 + 20 * ((c :: r).dropWhile letterB).length ≤ 20 * (c :: r).length
        omega
       ·rename_i hw
        rw [hw] at h hlt
        simp only at h hlt
        split
        ·rename_i n hn
         have e := (numT_some hn).1
         have e2 : ((c :: r).takeWhile letterB).length + ((c :: r).dropWhile letterB).length = (c :: r).length := by
          rw [← List.length_append,List.takeWhile_append_dropWhile]
         rw [hn] at hlt
         simp only at hlt
         show (Lib.itoa (n : Int)).length + 1 + 20 * ((c :: r).dropWhile letterB).length ≤ _
         rw [← e]
         omega
        ·rename_i hn
         rw [hn] at h
         cases h
      ·subst hx; cases h
theorem toks_w (n : Nat) : ∀ t : Bytes,t.length ≤ n → wL (toks t) ≤ 20 * t.length := by
 induction n with
 | zero =>
   intro t h
   have : t = [] := List.length_eq_zero_iff.1 (by omega)
   subst this
   exact Nat.le_refl _
 | succ n ih =>
   intro t h
   rw [toks_eq]
   have hu := unbl_le t
   split
   ·rename_i he
    show wTk (lexU (unbl t)).1 + 0 ≤ _
    cases hq : (lexU (unbl t)).1 <;> first | (show 0 + 0 ≤ _; omega) | (rw [hq] at he; cases he)
   ·rename_i he
    have he : (lexU (unbl t)).1.isEnd = false := by simpa using he
    have h1 := lexU_lt he
    have h2 := lexU_w he
    have h3 := ih (lexU (unbl t)).2 (by omega)
    show wTk (lexU (unbl t)).1 + wL (toks (lexU (unbl t)).2) ≤ _
    omega
theorem printed_len {s : Bytes} {q : Qy} {l : Toks} (h : allT (toks s) = some (.ok q l)) : (textQ q).length ≤ 20 * s.length :=
 Nat.le_trans (allT_w h) (toks_w _ s (Nat.le_refl _))
end Qv

end

section
open Go Go.Proofs Go.RowKit
namespace Qv
theorem parse_cases2 (s : Bytes) (h : s.length ≤ 65536) : (∃ q,checkQ globB q = 0 ∧ szQ q ∧ (textQ q).length ≤ 20 * s.length ∧ parseQ s = parsed q 0 0) ∨ (∃ (i : Nat) (c : Int),c ≠ 0 ∧ parseQ s = parsed zeroQ i c) := by
 obtain ⟨res,hres⟩ : ∃ res,allT (toks s) = some res := Option.ne_none_iff_exists'.1 (allT_ok (toks_ok _ s (Nat.le_refl _)))
 unfold parseQ
 rw [if_neg (by omega),hres]
 cases res with
 | err a => exact .inr ⟨_,3,by decide,rfl⟩
 | ok q l =>
   by_cases hc : checkQ globB q = 0
   ·exact .inl ⟨q,hc,parse_sz (by omega) hres,printed_len hres,if_pos hc⟩
   ·exact .inr ⟨0,_,hc,if_neg hc⟩
theorem sz_zero : szQ zeroQ := szQ_mk.2 ⟨Nat.zero_le _,Nat.zero_le _,fun x hx => by cases hx⟩
end Qv

end
