/- The language of queries in plain terms: how texts of queries bind when they are joined by words. No condition. -/
import Derived.Test.YtpoefbbfhebakaaGreatDoorCX
set_option linter.unusedVariables false
set_option linter.unusedSimpArgs false
open Go Go.RowKit
namespace Qv
section
variable {α : Type}
def Rd (m : Md) (l : List (Tk × α)) (q : Qy) (l' : List (Tk × α)) : Prop := ∃ F,goT F m l = some (.ok q l')
theorem Rd.conj {l l1 l2 : List (Tk × α)} {q q' : Qy} (h1 : Rd .unit l q l1) (h2 : Rd (.andL q) l1 q' l2) : Rd .conj l q' l2 := by
 obtain ⟨F,h1⟩ := h1
 obtain ⟨G,h2⟩ := h2
 refine ⟨F + G + 1,?_⟩
 show bindT (goT (F + G) .unit l) (fun q l => goT (F + G) (.andL q) l) = _
 rw [goT_mono (Nat.le_add_right F G) h1]
 exact goT_mono (Nat.le_add_left G F) h2
theorem Rd.disj {l l1 l2 : List (Tk × α)} {q q' : Qy} (h1 : Rd .conj l q l1) (h2 : Rd (.orL q) l1 q' l2) : Rd .disj l q' l2 := by
 obtain ⟨F,h1⟩ := h1
 obtain ⟨G,h2⟩ := h2
 refine ⟨F + G + 1,?_⟩
 show bindT (goT (F + G) .conj l) (fun q l => goT (F + G) (.orL q) l) = _
 rw [goT_mono (Nat.le_add_right F G) h1]
 exact goT_mono (Nat.le_add_left G F) h2
theorem Rd.andOut {q : Qy} {l : List (Tk × α)} (h : ¬ ∃ a l',l = (.word 10,a) :: l') : Rd (.andL q) l q l := ⟨1,andL_out h⟩
theorem Rd.orOut {q : Qy} {l : List (Tk × α)} (h : ¬ ∃ a l',l = (.word 11,a) :: l') : Rd (.orL q) l q l := ⟨1,orL_out h⟩
theorem Rd.andIn {q x y : Qy} {a : α} {l l1 l2 : List (Tk × α)} (hd : HdOK l) (h1 : Rd .unit l x l1) (h2 : Rd (.andL (.mk 10 [] 0 [q,x])) l1 y l2) : Rd (.andL q) ((.word 10,a) :: l) y l2 := by
 obtain ⟨F,h1⟩ := h1
 obtain ⟨G,h2⟩ := h2
 refine ⟨F + G + 1,?_⟩
 show okT l (fun l => bindT (goT (F + G) .unit l) fun x l => goT (F + G) (.andL (.mk 10 [] 0 [q,x])) l) = _
 rw [okT_hd hd,goT_mono (Nat.le_add_right F G) h1]
 exact goT_mono (Nat.le_add_left G F) h2
theorem Rd.orIn {q x y : Qy} {a : α} {l l1 l2 : List (Tk × α)} (hd : HdOK l) (h1 : Rd .conj l x l1) (h2 : Rd (.orL (.mk 11 [] 0 [q,x])) l1 y l2) : Rd (.orL q) ((.word 11,a) :: l) y l2 := by
 obtain ⟨F,h1⟩ := h1
 obtain ⟨G,h2⟩ := h2
 refine ⟨F + G + 1,?_⟩
 show okT l (fun l => bindT (goT (F + G) .conj l) fun x l => goT (F + G) (.orL (.mk 11 [] 0 [q,x])) l) = _
 rw [okT_hd hd,goT_mono (Nat.le_add_right F G) h1]
 exact goT_mono (Nat.le_add_left G F) h2
theorem Rd.paren {a b : α} {l r : List (Tk × α)} {q : Qy} (hl : HdOK l) (hr : HdOK r) (h : Rd .disj l q ((.rp,b) :: r)) : Rd .unit ((.lp,a) :: l) q r := by
 obtain ⟨F,h⟩ := h
 refine ⟨F + 1,?_⟩
 show okT l (fun l => bindT (goT F .disj l) rparT) = _
 rw [okT_hd hl,h]
 exact okT_hd (K := fun l => some (.ok q l)) hr
theorem Rd.one {k : Nat} (hk : opersN k = 1) {a : α} {l r : List (Tk × α)} {q : Qy} (hl : HdOK l) (h : Rd .unit l q r) : Rd .unit ((.word k,a) :: l) (.mk k [] 0 [q]) r := by
 obtain ⟨F,h⟩ := h
 refine ⟨F + 1,?_⟩
 rw [goT_wordS F k a _ (by rw [hk]; decide) hl]
 unfold simpT
 rw [if_pos hk,h]
 rfl
theorem Rd.tk {a : Qy} (ha : VQ a) {l r : List (Tk × α)} (k : kinds l = tkQ a) (hr : HdOK r) : Rd .unit (l ++ r) a r := unit_tk ha l r k hr
theorem hd_mk (t : Tk) (a : α) (l : List (Tk × α)) (h : t.bad? = false) : HdOK ((t,a) :: l) := ⟨_,_,rfl,h⟩
theorem no_and {t : Tk} {x : α} {l : List (Tk × α)} (h : t ≠ .word 10) : ¬ ∃ a l',(t,x) :: l = (Tk.word 10,a) :: l' := by
 rintro ⟨a,l',e⟩
 injection e with e _
 injection e with e _
 exact h e
theorem no_or {t : Tk} {x : α} {l : List (Tk × α)} (h : t ≠ .word 11) : ¬ ∃ a l',(t,x) :: l = (Tk.word 11,a) :: l' := by
 rintro ⟨a,l',e⟩
 injection e with e _
 injection e with e _
 exact h e
theorem Rd.alone {q : Qy} {l : List (Tk × α)} {t : Tk} {x : α} {r : List (Tk × α)} (h : Rd .unit l q ((t,x) :: r)) (ht : t ≠ .word 10) : Rd .conj l q ((t,x) :: r) := h.conj (.andOut (no_and ht))
def andQ (a b : Qy) : Qy := .mk 10 [] 0 [a,b]
def orQ (a b : Qy) : Qy := .mk 11 [] 0 [a,b]
def oneQ (k : Nat) (a : Qy) : Qy := .mk k [] 0 [a]
section
variable {a b c : Qy} (ha : VQ a) (hb : VQ b) (hc : VQ c) {la lb lc : List (Tk × α)} (ka : kinds la = tkQ a) (kb : kinds lb = tkQ b) (kc : kinds lc = tkQ c) (x y z : α)
include ha hb ka kb
theorem rd_or2 {r : List (Tk × α)} {t : Tk} (h10 : t ≠ .word 10) (h11 : t ≠ .word 11) (hg : t.bad? = false) : Rd .disj (la ++ (.word 11,x) :: (lb ++ (t,y) :: r)) (orQ a b) ((t,y) :: r) :=
 .disj (.alone (.tk ha ka (hd_mk _ _ _ rfl)) (by simp)) (.orIn (hd_tk hb kb _) (.alone (.tk hb kb (hd_mk _ _ _ hg)) h10) (.orOut (no_or h11)))
theorem rd5 {k : Nat} (hk : opersN k = 1) : Rd .disj ((.word k,z) :: (la ++ (.word 10,x) :: (lb ++ [(.stop,y)]))) (andQ (oneQ k a) b) [(.stop,y)] :=
 .disj (.conj (.one hk (hd_tk ha ka _) (.tk ha ka (hd_mk _ _ _ rfl))) (.andIn (hd_tk hb kb _) (.tk hb kb (hd_mk _ _ _ rfl)) (.andOut (no_and (by simp))))) (.orOut (no_or (by simp)))
theorem rd6 {k : Nat} (hk : opersN k = 1) : Rd .disj (lb ++ (.word 11,x) :: (.word k,z) :: (la ++ [(.stop,y)])) (orQ b (oneQ k a)) [(.stop,y)] :=
 .disj (.alone (.tk hb kb (hd_mk _ _ _ rfl)) (by simp)) (.orIn (hd_mk _ _ _ rfl) (.alone (.one hk (hd_tk ha ka _) (.tk ha ka (hd_mk _ _ _ rfl))) (by simp)) (.orOut (no_or (by simp))))
include hc kc
theorem rd1 : Rd .disj (la ++ (.word 10,x) :: (lb ++ (.word 11,y) :: (lc ++ [(.stop,z)]))) (orQ (andQ a b) c) [(.stop,z)] :=
 .disj (.conj (.tk ha ka (hd_mk _ _ _ rfl)) (.andIn (hd_tk hb kb _) (.tk hb kb (hd_mk _ _ _ rfl)) (.andOut (no_and (by simp)))))
  (.orIn (hd_tk hc kc _) (.alone (.tk hc kc (hd_mk _ _ _ rfl)) (by simp)) (.orOut (no_or (by simp))))
theorem rd2 : Rd .disj (la ++ (.word 11,x) :: (lb ++ (.word 10,y) :: (lc ++ [(.stop,z)]))) (orQ a (andQ b c)) [(.stop,z)] :=
 .disj (.alone (.tk ha ka (hd_mk _ _ _ rfl)) (by simp))
  (.orIn (hd_tk hb kb _) (.conj (.tk hb kb (hd_mk _ _ _ rfl)) (.andIn (hd_tk hc kc _) (.tk hc kc (hd_mk _ _ _ rfl)) (.andOut (no_and (by simp))))) (.orOut (no_or (by simp))))
theorem rd3 : Rd .disj (la ++ (.word 10,x) :: (lb ++ (.word 10,y) :: (lc ++ [(.stop,z)]))) (andQ (andQ a b) c) [(.stop,z)] :=
 .disj (.conj (.tk ha ka (hd_mk _ _ _ rfl)) (.andIn (hd_tk hb kb _) (.tk hb kb (hd_mk _ _ _ rfl)) (.andIn (hd_tk hc kc _) (.tk hc kc (hd_mk _ _ _ rfl)) (.andOut (no_and (by simp))))))
  (.orOut (no_or (by simp)))
theorem rd4 : Rd .disj (la ++ (.word 11,x) :: (lb ++ (.word 11,y) :: (lc ++ [(.stop,z)]))) (orQ (orQ a b) c) [(.stop,z)] :=
 .disj (.alone (.tk ha ka (hd_mk _ _ _ rfl)) (by simp))
  (.orIn (hd_tk hb kb _) (.alone (.tk hb kb (hd_mk _ _ _ rfl)) (by simp)) (.orIn (hd_tk hc kc _) (.alone (.tk hc kc (hd_mk _ _ _ rfl)) (by simp)) (.orOut (no_or (by simp)))))
theorem rd7 (u v w u2 : α) : Rd .disj ((.lp,u) :: (la ++ (.word 11,x) :: (lb ++ (.rp,y) :: (.word 10,v) :: (.lp,w) :: (lc ++ (.rp,u2) :: [(.stop,z)])))) (andQ (orQ a b) c) [(.stop,z)] :=
 .disj (.conj (.paren (hd_tk ha ka _) (hd_mk _ _ _ rfl) (rd_or2 ha hb ka kb x y (by simp) (by simp) rfl))
  (.andIn (hd_mk _ _ _ rfl) (.paren (hd_tk hc kc _) (hd_mk _ _ _ rfl) (.disj (.alone (.tk hc kc (hd_mk _ _ _ rfl)) (by simp)) (.orOut (no_or (by simp))))) (.andOut (no_and (by simp)))))
  (.orOut (no_or (by simp)))
end
end
theorem segK_mid {x y : Bytes} {u v : List Tk} (k : Nat) (h1 : 1 ≤ k) (h2 : k ≤ 13) (hx : SegK x u) (hy : SegK y v) (hv : v ≠ []) : SegK (x ++ ([32] ++ wordB k ++ [32]) ++ y) (u ++ .word k :: v) := by
 have a2 : SegK (wordB k ++ [32] ++ y) (.word k :: v) := segK_word h1 h2 hy hv
 have a3 : SegK ([32] ++ (wordB k ++ [32] ++ y)) ([] ++ (.word k :: v)) := (segK_bl rfl).append a2 (fun h => by cases h)
 have a4 := hx.append a3 (fun _ => ⟨by simp,fun z _ => sep_head (by decide)⟩)
 have e : x ++ ([32] ++ wordB k ++ [32]) ++ y = x ++ ([32] ++ (wordB k ++ [32] ++ y)) := by simp
 rw [e]
 exact a4
theorem segK_line {k : Nat} (h1 : 1 ≤ k) (h2 : k ≤ 13) {y : Bytes} {b : List Tk} (hy : SegK y b) (hb : b ≠ []) : SegK (wordB k ++ [10] ++ y) (.word k :: b) := by
 have hw : SegK (wordB k) [.word k] := ⟨_,seg_word k h1 h2,rfl⟩
 have h3 : SegK ([10] ++ y) ([] ++ b) := (segK_bl rfl).append hy (fun h => by cases h)
 rw [List.append_assoc]
 exact hw.append h3 (fun _ => ⟨hb,fun z _ => sep_head (by decide)⟩)
theorem read_text {s : Bytes} {ks : List Tk} {q : Qy} (hs : SegK s ks) (h : ∀ p : Toks,kinds p = ks → HdOK (p ++ [(Tk.stop,(([] : Bytes),([] : Bytes)))]) ∧ Rd .disj (p ++ [(Tk.stop,(([] : Bytes),([] : Bytes)))]) q [(.stop,([],[]))]) :
 allT (toks s) = some (.ok q []) := by
 obtain ⟨ps,hs,hk⟩ := hs
 obtain ⟨p,e1,e2⟩ := hs [] (fun _ c hc => by cases hc)
 rw [List.append_nil] at e1
 have h0 : toks [] = [(.stop,([],[]))] := rfl
 rw [h0] at e1
 have hp : kinds p = ks := by
  have := congrArg (List.map Prod.fst) e2
  rw [List.map_map,List.map_map] at this
  exact this.trans hk
 have hT := toks_ok _ s (Nat.le_refl _)
 obtain ⟨h1,F,h2⟩ := h p hp
 rw [e1] at hT ⊢
 exact allT_of hT h1 h2
section
variable {a b c : Qy} (ha : VQ a) (hb : VQ b) (hc : VQ c)
include ha hb
theorem bind5 {k : Nat} (hk : opersN k = 1) : allT (toks (wordB k ++ [32] ++ textQ a ++ [32,97,110,100,32] ++ textQ b)) = some (.ok (andQ (oneQ k a) b) []) := by
 have h13 := oper1 hk
 refine read_text (segK_mid 10 (by decide) (by decide) (segK_word (by omega) (by omega) (text_tk ha) (tkQ_ne ha)) (text_tk hb) (tkQ_ne hb)) fun p hp => ?_
 obtain ⟨z,l1,rfl,h1⟩ := kinds_split hp
 obtain ⟨la,l2,rfl,ka,h2⟩ := kinds_app2 h1
 obtain ⟨x,lb,rfl,kb⟩ := kinds_split h2
 have e : ((Tk.word k,z) :: (la ++ (Tk.word 10,x) :: lb)) ++ [(Tk.stop,(([] : Bytes),([] : Bytes)))] = (.word k,z) :: (la ++ (.word 10,x) :: (lb ++ [(.stop,([],[]))])) := by simp
 rw [e]
 exact ⟨hd_mk _ _ _ rfl,rd5 ha hb ka kb _ _ _ hk⟩
theorem bind6 {k : Nat} (hk : opersN k = 1) : allT (toks (textQ b ++ [32,111,114,32] ++ wordB k ++ [10] ++ textQ a)) = some (.ok (orQ b (oneQ k a)) []) := by
 have h13 := oper1 hk
 have e0 : textQ b ++ [32,111,114,32] ++ wordB k ++ [10] ++ textQ a = textQ b ++ [32,111,114,32] ++ (wordB k ++ [10] ++ textQ a) := by simp
 rw [e0]
 refine read_text (segK_mid 11 (by decide) (by decide) (text_tk hb) (segK_line (k := k) (by omega) (by omega) (text_tk ha) (tkQ_ne ha)) (by simp)) fun p hp => ?_
 obtain ⟨lb,l1,rfl,kb,h1⟩ := kinds_app2 hp
 obtain ⟨x,l2,rfl,h2⟩ := kinds_split h1
 obtain ⟨z,la,rfl,ka⟩ := kinds_split h2
 have e : (lb ++ (Tk.word 11,x) :: (Tk.word k,z) :: la) ++ [(Tk.stop,(([] : Bytes),([] : Bytes)))] = lb ++ (.word 11,x) :: (.word k,z) :: (la ++ [(.stop,([],[]))]) := by simp
 rw [e]
 exact ⟨hd_tk hb kb _,rd6 ha hb ka kb _ _ _ hk⟩
include hc
theorem bind3 (m n : Nat) (h1 : 1 ≤ m) (h2 : m ≤ 13) (h3 : 1 ≤ n) (h4 : n ≤ 13) {q : Qy} (h : ∀ (la lb lc : Toks) x y z,kinds la = tkQ a → kinds lb = tkQ b → kinds lc = tkQ c → Rd .disj (la ++ (.word m,x) :: (lb ++ (.word n,y) :: (lc ++ [(.stop,z)]))) q [(.stop,z)]) :
 allT (toks (textQ a ++ ([32] ++ wordB m ++ [32]) ++ textQ b ++ ([32] ++ wordB n ++ [32]) ++ textQ c)) = some (.ok q []) := by
 refine read_text (segK_mid n h3 h4 (segK_mid m h1 h2 (text_tk ha) (text_tk hb) (tkQ_ne hb)) (text_tk hc) (tkQ_ne hc)) fun p hp => ?_
 obtain ⟨l,l',rfl,g1,g2⟩ := kinds_app2 hp
 obtain ⟨la,l2,rfl,ka,g3⟩ := kinds_app2 g1
 obtain ⟨x,lb,rfl,kb⟩ := kinds_split g3
 obtain ⟨y,lc,rfl,kc⟩ := kinds_split g2
 have e : (la ++ (Tk.word m,x) :: lb) ++ (Tk.word n,y) :: lc ++ [(Tk.stop,(([] : Bytes),([] : Bytes)))] = la ++ (.word m,x) :: (lb ++ (.word n,y) :: (lc ++ [(.stop,([],[]))])) := by simp
 rw [e]
 exact ⟨hd_tk ha ka _,h _ _ _ _ _ _ ka kb kc⟩
theorem bind1 : allT (toks (textQ a ++ [32,97,110,100,32] ++ textQ b ++ [32,111,114,32] ++ textQ c)) = some (.ok (orQ (andQ a b) c) []) :=
 bind3 ha hb hc 10 11 (by decide) (by decide) (by decide) (by decide) fun _ _ _ _ _ _ ka kb kc => rd1 ha hb hc ka kb kc _ _ _
theorem bind2 : allT (toks (textQ a ++ [32,111,114,32] ++ textQ b ++ [32,97,110,100,32] ++ textQ c)) = some (.ok (orQ a (andQ b c)) []) :=
 bind3 ha hb hc 11 10 (by decide) (by decide) (by decide) (by decide) fun _ _ _ _ _ _ ka kb kc => rd2 ha hb hc ka kb kc _ _ _
theorem bind3' : allT (toks (textQ a ++ [32,97,110,100,32] ++ textQ b ++ [32,97,110,100,32] ++ textQ c)) = some (.ok (andQ (andQ a b) c) []) :=
 bind3 ha hb hc 10 10 (by decide) (by decide) (by decide) (by decide) fun _ _ _ _ _ _ ka kb kc => rd3 ha hb hc ka kb kc _ _ _
theorem bind4 : allT (toks (textQ a ++ [32,111,114,32] ++ textQ b ++ [32,111,114,32] ++ textQ c)) = some (.ok (orQ (orQ a b) c) []) :=
 bind3 ha hb hc 11 11 (by decide) (by decide) (by decide) (by decide) fun _ _ _ _ _ _ ka kb kc => rd4 ha hb hc ka kb kc _ _ _
theorem bind7 : allT (toks ([40] ++ textQ a ++ [32,111,114,32] ++ textQ b ++ [41,97,110,100,40] ++ textQ c ++ [41])) = some (.ok (andQ (orQ a b) c) []) := by
 have e0 : [40] ++ textQ a ++ [32,111,114,32] ++ textQ b ++ [41,97,110,100,40] ++ textQ c ++ [41] = [40] ++ ((textQ a ++ [32,111,114,32] ++ textQ b) ++ ([41] ++ (wordB 10 ++ ([40] ++ (textQ c ++ [41]))))) := by
  have : wordB 10 = [97,110,100] := rfl
  rw [this]
  simp
 rw [e0]
 have s1 : SegK (textQ c ++ [41]) (tkQ c ++ [.rp]) := (text_tk hc).append ⟨_,seg_rp,rfl⟩ (fun _ => ⟨by simp,fun z _ => sep_head (by decide)⟩)
 have hl : SegK [40] [.lp] := ⟨_,seg_lp,rfl⟩
 have hr : SegK [41] [.rp] := ⟨_,seg_rp,rfl⟩
 have hw : SegK (wordB 10) [.word 10] := ⟨_,seg_word 10 (by decide) (by decide),rfl⟩
 have s2 := hl.append s1 (fun h => by cases h)
 have s3 := hw.append s2 (fun _ => ⟨by simp,fun z _ => sep_head (by decide)⟩)
 have s4 := hr.append s3 (fun h => by cases h)
 have s5 := (segK_mid 11 (by decide) (by decide) (text_tk ha) (text_tk hb) (tkQ_ne hb)).append s4 (fun _ => ⟨by simp,fun z _ => sep_head (by decide)⟩)
 have s6 := hl.append s5 (fun h => by cases h)
 refine read_text s6 fun p hp => ?_
 have hp : kinds p = .lp :: ((tkQ a ++ .word 11 :: tkQ b) ++ (.rp :: .word 10 :: .lp :: (tkQ c ++ [.rp]))) := hp
 obtain ⟨u,l1,rfl,g1⟩ := kinds_split hp
 obtain ⟨l2,l3,rfl,g2,g3⟩ := kinds_app2 g1
 obtain ⟨la,l4,rfl,ka,g4⟩ := kinds_app2 g2
 obtain ⟨x,lb,rfl,kb⟩ := kinds_split g4
 obtain ⟨y,l5,rfl,g5⟩ := kinds_split g3
 obtain ⟨v,l6,rfl,g6⟩ := kinds_split g5
 obtain ⟨w,l7,rfl,g7⟩ := kinds_split g6
 obtain ⟨lc,l8,rfl,kc,g8⟩ := kinds_app2 g7
 obtain ⟨u2,l9,rfl,g9⟩ := kinds_split g8
 obtain rfl : l9 = [] := by cases l9 with | nil => rfl | cons _ _ => cases g9
 have e : ((Tk.lp,u) :: ((la ++ (Tk.word 11,x) :: lb) ++ (Tk.rp,y) :: (Tk.word 10,v) :: (Tk.lp,w) :: (lc ++ [(Tk.rp,u2)]))) ++ [(Tk.stop,(([] : Bytes),([] : Bytes)))] =
  (.lp,u) :: (la ++ (.word 11,x) :: (lb ++ (.rp,y) :: (.word 10,v) :: (.lp,w) :: (lc ++ (.rp,u2) :: [(.stop,([],[]))]))) := by simp
 rw [e]
 exact ⟨hd_mk _ _ _ rfl,rd7 ha hb hc ka kb kc _ _ _ _ _ _ _⟩
end
end Qv

