/- Several texts in one: The language of queries in plain terms: a printed query is read back and what follows. No condition. -/
import Derived.Test.YtpoefbbfhebakaaGreatDoorBN
set_option linter.unusedVariables false
set_option linter.unusedSimpArgs false

section
open Go Go.RowKit
namespace Qv
section
variable {α : Type}
def HdOK (l : List (Tk × α)) : Prop := ∃ e r,l = e :: r ∧ e.1.bad? = false
theorem okT_hd {l : List (Tk × α)} {K : List (Tk × α) → Option (PR α)} (h : HdOK l) : okT l K = K l := by
 obtain ⟨⟨t,a⟩,r,rfl,h⟩ := h
 exact okT_cons h
theorem allT_of {l : List (Tk × α)} {F : Nat} {q : Qy} {b : α} (hT : TokL l) (hd : HdOK l) (h : goT F .disj l = some (.ok q [(.stop,b)])) : allT l = some (.ok q []) := by
 have hne := allT_ok hT
 rw [allT_eq,okT_hd hd] at hne ⊢
 generalize 3 * l.length + 3 = G at hne ⊢
 cases hr : goT G .disj l with
 | none => rw [hr] at hne; exact absurd rfl hne
 | some r =>
   have h1 := goT_mono (Nat.le_max_left G F) hr
   have h2 := goT_mono (Nat.le_max_right G F) h
   rw [h1] at h2
   obtain rfl := Option.some.inj h2
   rfl
end
end Qv

end

section
open Go Go.RowKit
namespace Qv
theorem bl_ne {c : UInt8} (h : isBl c = true) : c ≠ 34 ∧ c ≠ 92 ∧ letterB c = false := by
 simp only [isBl,Bool.or_eq_true,beq_iff_eq] at h
 rcases h with rfl | rfl <;> exact ⟨by decide,by decide,by decide⟩
theorem strGo_bl : ∀ post : Bytes,post.all isBl = true → strGo post = none
 | [],_ => rfl
 | c :: post,h => by
   simp only [List.all_cons,Bool.and_eq_true] at h
   obtain ⟨h1,h2,-⟩ := bl_ne h.1
   rw [strGo_cons,if_neg h1,if_neg h2,strGo_bl post h.2]
   rfl
theorem strGo_post {post : Bytes} (hp : post.all isBl = true) : ∀ r : Bytes,strGo r = none → strGo (r ++ post) = none
 | [],_ => strGo_bl post hp
 | c :: r,h => by
   rw [strGo_cons] at h
   rw [List.cons_append,strGo_cons]
   by_cases h1 : c = 34
   ·rw [if_pos h1] at h; cases h
   rw [if_neg h1] at h ⊢
   by_cases h2 : c = 92
   ·rw [if_pos h2] at h ⊢
    match r,h with
    | [],_ =>
      match post,hp with
      | [],_ => rfl
      | d :: post,hp =>
        simp only [List.all_cons,Bool.and_eq_true] at hp
        obtain ⟨g1,g2,-⟩ := bl_ne hp.1
        show (if d = 34 ∨ d = 92 then _ else none) = none
        rw [if_neg (by rintro (e | e); exact g1 e; exact g2 e)]
    | d :: r,h =>
      simp only [List.cons_append] at h ⊢
      by_cases h3 : d = 34 ∨ d = 92
      ·rw [if_pos h3] at h ⊢
       cases hq : strGo r with
       | some p => rw [hq] at h; cases h
       | none => rw [strGo_post hp r hq]; rfl
      ·rw [if_neg h3]
   ·rw [if_neg h2] at h ⊢
    cases hq : strGo r with
    | some p => rw [hq] at h; cases h
    | none => rw [strGo_post hp r hq]; rfl
theorem sep_post {post : Bytes} (hp : post.all isBl = true) {r : Bytes} (hr : sepB r) : sepB (r ++ post) := by
 cases r with
 | cons c r => exact fun d hd => hr d hd
 | nil =>
   intro d hd
   cases post with
   | nil => cases hd
   | cons c post =>
     obtain rfl := Option.some.inj hd
     simp only [List.all_cons,Bool.and_eq_true] at hp
     exact (bl_ne hp.1).2.2
theorem take_post {post : Bytes} (hp : post.all isBl = true) (u : Bytes) : (u ++ post).takeWhile letterB = u.takeWhile letterB := by
 induction u with
 | nil =>
   cases post with
   | nil => rfl
   | cons c post =>
     simp only [List.all_cons,Bool.and_eq_true] at hp
     rw [List.nil_append,List.takeWhile_cons,if_neg (by rw [(bl_ne hp.1).2.2]; simp)]
     rfl
 | cons c u ih =>
   rw [List.cons_append,List.takeWhile_cons,List.takeWhile_cons,ih]
theorem lexU_bad {post : Bytes} (hp : post.all isBl = true) {u : Bytes} (h : (lexU u).1 = .bad) : (lexU (u ++ post)).1 = .bad := by
 cases u with
 | nil => cases h
 | cons c r =>
   have hx : ∀ r,lexU (c :: r) = (if c = 40 then (.lp,r) else if c = 41 then (.rp,r)
    else if c = 34 then (match strGo r with
     | some p => (.str p.1,p.2)
     | none => (.bad,[]))
    else if letterB c = true then runU (c :: r) else (.bad,[])) := fun _ => rfl
   rw [List.cons_append,hx]
   rw [hx] at h
   by_cases h1 : c = 40
   ·rw [if_pos h1] at h; cases h
   rw [if_neg h1] at h ⊢
   by_cases h2 : c = 41
   ·rw [if_pos h2] at h; cases h
   rw [if_neg h2] at h ⊢
   by_cases h3 : c = 34
   ·rw [if_pos h3] at h ⊢
    cases hs : strGo r with
    | some p => rw [hs] at h; cases h
    | none => rw [strGo_post hp r hs]
   rw [if_neg h3] at h ⊢
   by_cases h4 : letterB c = true
   ·rw [if_pos h4] at h ⊢
    have e := take_post hp (c :: r)
    rw [List.cons_append] at e
    unfold runU at h ⊢
    rw [e]
    split
    ·rename_i k hk; rw [hk] at h; cases h
    ·rename_i hk
     rw [hk] at h
     simp only at h
     split
     ·rename_i n hn; rw [hn] at h; cases h
     ·rfl
   ·rw [if_neg h4]
theorem lexU_stop {u : Bytes} (h : (lexU u).1 = .stop) : u = [] := by
 cases u with
 | nil => rfl
 | cons c r =>
   have hx : lexU (c :: r) = (if c = 40 then (.lp,r) else if c = 41 then (.rp,r)
    else if c = 34 then (match strGo r with
     | some p => (.str p.1,p.2)
     | none => (.bad,[]))
    else if letterB c = true then runU (c :: r) else (.bad,[])) := rfl
   rw [hx] at h
   split at h
   ·cases h
   ·split at h
    ·cases h
    ·split at h
     ·split at h <;> cases h
     ·split at h
      ·unfold runU at h
       split at h
       ·cases h
       ·split at h <;> cases h
      ·cases h
def shB (post : Bytes) : Tk → Bytes → Bytes
 | .stop,_ => []
 | _,u => u ++ post
theorem unbl_nil {post : Bytes} (hp : post.all isBl = true) : unbl post = [] := by
 induction post with
 | nil => rfl
 | cons c post ih =>
   simp only [List.all_cons,Bool.and_eq_true] at hp
   rw [unbl,List.dropWhile_cons,if_pos hp.1]
   exact ih hp.2
theorem unbl_post {post : Bytes} (hp : post.all isBl = true) (t : Bytes) : unbl (t ++ post) = if unbl t = [] then [] else unbl t ++ post := by
 obtain ⟨b,hb,hbt⟩ := split_bl t
 rw [hbt,List.append_assoc,unbl_app hb]
 rw [← hbt]
 by_cases h : unbl t = []
 ·rw [if_pos h,h]
  exact unbl_nil hp
 ·rw [if_neg h]
  exact unbl_id h (unbl_head t)
theorem toks_post {post : Bytes} (hp : post.all isBl = true) (n : Nat) : ∀ t : Bytes,t.length ≤ n → (toks (t ++ post)).map (fun e => (e.1,e.2.1)) = (toks t).map fun e => (e.1,shB post e.1 e.2.1) := by
 induction n with
 | zero =>
   intro t h
   have : t = [] := List.length_eq_zero_iff.1 (by omega)
   subst this
   rw [List.nil_append,toks_eq,unbl_nil hp]
   rfl
 | succ n ih =>
   intro t h
   rw [toks_eq (t ++ post),toks_eq t,unbl_post hp]
   by_cases hu : unbl t = []
   ·rw [if_pos hu,hu]
    rfl
   rw [if_neg hu]
   by_cases he : (lexU (unbl t)).1.isEnd = true
   ·have hb : (lexU (unbl t)).1 = .bad := by
     cases hq : (lexU (unbl t)).1 with
     | stop => exact absurd (lexU_stop hq) hu
     | bad => rfl
     | _ => rw [hq] at he; cases he
    have hb2 := lexU_bad hp hb
    rw [hb,hb2]
    rfl
   ·have he : (lexU (unbl t)).1.isEnd = false := by simpa using he
    obtain ⟨c,c1,c2,c3,c4⟩ := lexU_local he
    have e : lexU (unbl t ++ post) = ((lexU (unbl t)).1,(lexU (unbl t)).2 ++ post) := by
     conv => lhs; rw [c2,List.append_assoc]
     exact c4 _ fun hr => sep_post hp (c3 hr)
    have hlt := lexU_lt he
    have hle := unbl_le t
    rw [e]
    simp only [he]
    rw [List.map_cons,List.map_cons]
    show _ :: (toks ((lexU (unbl t)).2 ++ post)).map _ = _ :: (toks (lexU (unbl t)).2).map _
    rw [ih _ (by omega)]
    congr 1
    cases hq : (lexU (unbl t)).1 <;> first | rfl | (rw [hq] at he; cases he)
end Qv

end

section
open Go Go.RowKit
namespace Qv
section
variable {α β : Type}
theorem endK_map (g : α → β) (q : Qy) (l : List (Tk × α)) : endK q (mapT g l) = (endK q l).map (PR.map g) := by
 match l with
 | [] => rfl
 | (t,a) :: l => cases t <;> rfl
theorem allT_map (g : α → β) (l : List (Tk × α)) : allT (mapT g l) = (allT l).map (PR.map g) := by
 rw [allT_eq,allT_eq]
 refine okT_map g fun l2 => ?_
 have hlen : (mapT g l2).length = l2.length := List.length_map ..
 rw [hlen]
 exact bindT_map g (goT_map g _ _ _) (endK_map g)
def idxL : Nat → List (Tk × α) → List (Tk × Nat)
 | _,[] => []
 | n,x :: l => (x.1,n) :: idxL (n + 1) l
theorem idxL_kinds : ∀ {l : List (Tk × α)} {l' : List (Tk × β)} (n : Nat),l.map Prod.fst = l'.map Prod.fst → idxL n l = idxL n l'
 | [],[],_,_ => rfl
 | x :: l,y :: l',n,h => by
   injection h with h1 h2
   show (x.1,n) :: _ = (y.1,n) :: _
   rw [h1,idxL_kinds (n + 1) h2]
 | [],_ :: _,_,h => by cases h
 | _ :: _,[],_,h => by cases h
theorem idxL_map (d : α) : ∀ (l : List (Tk × α)) (n : Nat) (g : Nat → α),(∀ i x,l[i]? = some x → g (n + i) = x.2) → mapT g (idxL n l) = l
 | [],_,_,_ => rfl
 | x :: l,n,g,h => by
   show (x.1,g n) :: mapT g (idxL (n + 1) l) = _
   rw [idxL_map d l (n + 1) g fun i y hy => by rw [show n + 1 + i = n + (i + 1) by omega]; exact h (i + 1) y hy]
   have := h 0 x rfl
   rw [Nat.add_zero] at this
   rw [this]
theorem idxL_at : ∀ (l : List (Tk × α)) (n i : Nat) (y : Tk × Nat),(idxL n l)[i]? = some y → y.2 = n + i
 | x :: l,n,0,y,h => by cases h; rfl
 | x :: l,n,i + 1,y,h => by
   have := idxL_at l (n + 1) i y h
   omega
theorem same_read {l : List (Tk × α)} {l' : List (Tk × β)} (hk : l.map Prod.fst = l'.map Prod.fst) :
 (∀ q,allT l = some (.ok q []) → allT l' = some (.ok q [])) ∧ ∀ a,allT l = some (.err a) → ∃ (i : Nat) (e : Tk × α) (e' : Tk × β),l[i]? = some e ∧ l'[i]? = some e' ∧ a = e.2 ∧ allT l' = some (.err e'.2) := by
 have hlen : l.length = l'.length := by have := congrArg List.length hk; simpa using this
 cases l with
 | nil => exact ⟨fun q h => (by cases h),fun a h => (by cases h)⟩
 | cons x l =>
 cases l' with
 | nil => cases hk
 | cons x' l' =>
 generalize hL : x :: l = L at *
 generalize hL' : x' :: l' = L' at *
 have e1 : mapT (fun i => ((L[i]?).getD x).2) (idxL 0 L) = L := idxL_map x.2 L 0 _ fun i y hy => by rw [Nat.zero_add,hy]; rfl
 have e2 : mapT (fun i => ((L'[i]?).getD x').2) (idxL 0 L') = L' := idxL_map x'.2 L' 0 _ fun i y hy => by rw [Nat.zero_add,hy]; rfl
 rw [← idxL_kinds 0 hk] at e2
 have r1 := allT_map (fun i => ((L[i]?).getD x).2) (idxL 0 L)
 have r2 := allT_map (fun i => ((L'[i]?).getD x').2) (idxL 0 L)
 rw [e1] at r1
 rw [e2] at r2
 refine ⟨fun q h => ?_,fun a h => ?_⟩
 ·rw [h] at r1
  cases hr : allT (idxL 0 L) with
  | none => rw [hr] at r1; cases r1
  | some r =>
    rw [hr] at r1 r2
    cases r with
    | err i => cases r1
    | ok q2 l2 =>
      injection r1 with r1
      injection r1 with e3 e4
      subst e3
      have : l2 = [] := by cases l2 with | nil => rfl | cons y l2 => cases e4
      subst this
      exact r2
 ·rw [h] at r1
  cases hr : allT (idxL 0 L) with
  | none => rw [hr] at r1; cases r1
  | some r =>
    rw [hr] at r1 r2
    cases r with
    | ok q2 l2 => cases r1
    | err i =>
      injection r1 with r1
      injection r1 with r1
      obtain ⟨p,e,l2,g1,g2,-⟩ := allT_prefix hr
      have hi : (idxL 0 L)[p.length]? = some e := by rw [g1]; simp
      have hii := idxL_at _ _ _ _ hi
      rw [← g2,Nat.zero_add] at hii
      have hlt : i < L.length := by
       rw [hii]
       have h1 : ∀ (l : List (Tk × α)) (n : Nat),(idxL n l).length = l.length := by
        intro l
        induction l with
        | nil => intro n; rfl
        | cons y l ih => intro n; show (idxL (n + 1) l).length + 1 = l.length + 1; rw [ih]
       have := (List.getElem?_eq_some_iff.1 hi).1
       rw [h1] at this
       exact this
      have hlt' : i < L'.length := by omega
      refine ⟨i,L[i],L'[i],List.getElem?_eq_getElem hlt,List.getElem?_eq_getElem hlt',?_,?_⟩
      ·rw [r1]
       show ((L[i]?).getD x).2 = L[i].2
       rw [List.getElem?_eq_getElem hlt]
       rfl
      ·rw [r2]
       show some (PR.err ((L'[i]?).getD x').2) = some (PR.err L'[i].2)
       rw [List.getElem?_eq_getElem hlt']
       rfl
end
theorem stop_end (n : Nat) : ∀ t : Bytes,t.length ≤ n → ∀ e,e ∈ toks t → e.1 = .stop → e.2.1 = [] := by
 induction n with
 | zero =>
   intro t h e he _
   have : t = [] := List.length_eq_zero_iff.1 (by omega)
   subst this
   have he : e ∈ [(Tk.stop,(([] : Bytes),([] : Bytes)))] := he
   rw [List.mem_singleton] at he
   rw [he]
 | succ n ih =>
   intro t h e he hs
   rw [toks_eq,List.mem_cons] at he
   have hu := unbl_le t
   rcases he with rfl | he
   ·exact lexU_stop hs
   ·split at he
    ·cases he
    ·rename_i hx
     have hx : (lexU (unbl t)).1.isEnd = false := by simpa using hx
     have := lexU_lt hx
     exact ih _ (by omega) e he hs
theorem paren_read {s : Bytes} {q : Qy} (h : allT (toks s) = some (.ok q [])) : allT (toks ([40] ++ s ++ [41])) = some (.ok q []) := by
 rw [allT_eq] at h
 have hne : toks s ≠ [] := by rw [toks_eq]; simp
 generalize hts : toks s = L at h hne
 match L,hne with
 | (t,a) :: l,_ =>
 have hb : t.bad? = false := by cases t <;> first | rfl | cases h
 rw [okT_cons hb] at h
 generalize 3 * ((t,a) :: l).length + 3 = G at h
 cases hr : goT G .disj ((t,a) :: l) with
 | none => rw [hr] at h; cases h
 | some r =>
 rw [hr] at h
 cases r with
 | err a2 => cases h
 | ok q2 l1 =>
 have h : endK q2 l1 = some (.ok q []) := h
 match l1,h,hr with
 | [],h,_ => cases h
 | (t1,b) :: l1,h,hr =>
 have ht1 : t1 = .stop ∧ q2 = q := by
  cases t1 <;> first | (injection h with h; injection h with h _; exact ⟨rfl,h⟩) | cases h
 obtain ⟨rfl,rfl⟩ := ht1
 obtain ⟨p,e1,hp⟩ := (goT_loc G .disj).ok _ _ _ hr
 rw [e1] at hts
 have hb1 : b.1 = [] := stop_end s.length s (Nat.le_refl _) (.stop,b) (by rw [hts]; simp) rfl
 obtain ⟨x,ps,x1,x2,x3,-⟩ := seg_toks s.length s (Nat.le_refl _) p (.stop,b) l1 hts
 have hx : s = x := by rw [x1]; show x ++ b.1 = x; rw [hb1,List.append_nil]
 obtain ⟨p',y1,y2⟩ := x2 [41] (fun _ c hc => by obtain rfl := Option.some.inj hc; decide)
 have hk : kinds p' = kinds p := by
  have z1 := congrArg (List.map Prod.fst) y2
  have z2 := congrArg (List.map Prod.fst) x3
  rw [List.map_map,List.map_map] at z1 z2
  exact z1.trans z2.symm
 have h41 : toks [41] = [(.rp,([41],[])),(.stop,([],[]))] := rfl
 rw [← hx,h41] at y1
 have htk : toks ([40] ++ s ++ [41]) = (.lp,(40 :: (s ++ [41]),s ++ [41])) :: toks (s ++ [41]) := by
  have e : [40] ++ s ++ [41] = 40 :: (s ++ [41]) := by simp
  rw [e,toks_eq]
  rfl
 have hT := toks_ok _ ([40] ++ s ++ [41]) (Nat.le_refl _)
 rw [htk,y1] at hT ⊢
 have hd := hp p' [(.rp,([41],[])),(.stop,([],[]))] hk ⟨_,_,rfl,.inl (.inr rfl)⟩
 have hH : HdOK (p' ++ [(Tk.rp,(([41] : Bytes),([] : Bytes))),(Tk.stop,([],[]))]) := by
  cases p with
  | nil => rw [kinds_nil hk]; exact ⟨_,_,rfl,rfl⟩
  | cons y p =>
    obtain ⟨a2,r,rfl,-⟩ := kinds_cons hk
    injection e1 with e1 _
    subst e1
    exact ⟨_,_,rfl,hb⟩
 refine allT_of (F := G + 3 + 4) (b := ([],[])) hT ⟨_,_,rfl,rfl⟩ ?_
 have hu : goT (G + 3 + 1) .unit ((Tk.lp,(40 :: (s ++ [41]),s ++ [41])) :: (p' ++ [(Tk.rp,(([41] : Bytes),([] : Bytes))),(Tk.stop,([],[]))])) = some (.ok q2 [(Tk.stop,([],[]))]) := by
  show okT _ (fun l => bindT (goT (G + 3) .disj l) rparT) = _
  rw [okT_hd hH,hd]
  rfl
 show bindT (goT (G + 3 + 3) .conj _) (fun q l => goT (G + 3 + 3) (.orL q) l) = _
 have hc : goT (G + 3 + 3) .conj ((Tk.lp,(40 :: (s ++ [41]),s ++ [41])) :: (p' ++ [(Tk.rp,(([41] : Bytes),([] : Bytes))),(Tk.stop,([],[]))])) = some (.ok q2 [(Tk.stop,([],[]))]) := by
  show bindT (goT (G + 3 + 2) .unit _) (fun q l => goT (G + 3 + 2) (.andL q) l) = _
  rw [goT_mono (by omega) hu]
  exact andL_out (f := G + 3 + 1) (l := [(Tk.stop,([],[]))]) (by rintro ⟨a',l',e⟩; cases e)
 rw [hc]
 exact orL_out (f := G + 3 + 2) (l := [(Tk.stop,([],[]))]) (by rintro ⟨a',l',e⟩; cases e)
end Qv

end
