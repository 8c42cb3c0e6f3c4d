/- Several texts in one: Contract: strings.Split and what follows. No condition. -/
import Derived.Test.YtpoefbbfhebakaaGreatDoorC0
import Derived.Lib.SplitLaws
set_option linter.unusedVariables false
set_option linter.unusedSimpArgs false

section
open Go Go.Proofs Go.RowKit
namespace Qv
theorem split_ok (s sep : Bytes) (hs : s.length < 4294967281) (h1 : 1 ≤ sep.length) : CallsTo C 184 [.str s,.str sep] (fun r => r = .val (encS (Lib.split s sep))) := by
 refine ⟨⟨_,Tryz.func184,rfl,rfl⟩,fun imm w vs hJ hn hi hl hr => ?_⟩
 match vs,hl with
 | [v0,v1],_ =>
 have h := hr 0 v0 _ rfl rfl
 have h' := hr 1 v1 _ rfl rfl
 obtain rfl : v0 = .string ⟨s.toArray⟩ := by cases h; rfl
 obtain rfl : v1 = .string ⟨sep.toArray⟩ := by cases h'; rfl
 obtain ⟨⟨-,⟨m,hm⟩,-,-⟩,-⟩ := hJ
 have hsz : (⟨sep.toArray⟩ : ByteArray).size = sep.length := by simp [ByteArray.size]
 have hl2 : (Lib.splitB ⟨sep.toArray⟩ 0 (Lib.countB ⟨s.toArray⟩ ⟨sep.toArray⟩) ⟨s.toArray⟩).length = Lib.countB ⟨s.toArray⟩ ⟨sep.toArray⟩ + 1 :=
  Lib.splitB_all ⟨sep.toArray⟩ (by rw [hsz]; exact h1) 0 _ _ rfl
 have hd : (Lib.splitB ⟨sep.toArray⟩ 0 (Lib.countB ⟨s.toArray⟩ ⟨sep.toArray⟩) ⟨s.toArray⟩).map (·.data.toList) = Lib.split s sep := by
  rw [Lib.splitB_data]
  rfl
 refine (Tryz.strings_Split ⟨s.toArray⟩ ⟨sep.toArray⟩ m w (by rw [show (⟨s.toArray⟩ : ByteArray).size = s.length by simp [ByteArray.size]]; exact hs) hm (by rw [hsz]; exact h1)).mono ?_
 rintro e w' ⟨rfl,rfl⟩
 generalize Lib.splitB ⟨sep.toArray⟩ 0 (Lib.countB ⟨s.toArray⟩ ⟨sep.toArray⟩) ⟨s.toArray⟩ = L at hl2 hd
 refine ⟨_,_,rfl,rfl,?_,(Below.refl _ _).alloc (Nat.le_refl _) _⟩
 show Rep _ _ _ (encS (Lib.split s sep))
 have hlen : ((Lib.split s sep).map enc1).length = Lib.countB ⟨s.toArray⟩ ⟨sep.toArray⟩ + 1 := by rw [List.length_map,← hd,List.length_map,hl2]
 rw [← hlen]
 unfold encS
 have get : ∀ (i : Nat) (ys : List AV) (j : Nat) (y : AV),((Lib.split s sep).map enc1)[i]? = some ys → ys[j]? = some y → ∃ b : ByteArray,L[i]? = some b ∧ j = 0 ∧ y = .str b.data.toList := fun i ys j y h2 h3 => by
  rw [← hd,List.map_map,List.getElem?_map] at h2
  cases hq : L[i]? with
  | none => simp [hq] at h2
  | some b =>
    simp only [hq,Option.map_some,Option.some.injEq,Function.comp,enc1] at h2
    subst h2
    cases j with
    | zero => simp at h3; exact ⟨b,rfl,rfl,h3.symm⟩
    | succ j => simp at h3
 refine Rep.sl w.heap.size 0 _ 1 ((Lib.split s sep).map enc1) (fun i _ => (L[i]?).elim undef Value.string) (fun i ys h2 => ?_) (fun i ys j y h2 h3 => ?_) (fun i ys j y h2 h3 => ?_) (fun i ys j y h2 h3 => .inr (Nat.le_refl _)) (fun i ys j y h2 h3 => ?_) (Nat.le_refl _)
 ·obtain ⟨x,-,rfl⟩ := List.mem_map.1 (List.mem_of_getElem? h2)
  rfl
 ·obtain ⟨b,-,-,rfl⟩ := get i ys j y h2 h3
  rfl
 ·obtain ⟨b,hb,rfl,rfl⟩ := get i ys j y h2 h3
  rw [World.cell?_alloc_new]
  simp [hb]
 ·obtain ⟨b,hb,rfl,rfl⟩ := get i ys j y h2 h3
  rw [hb]
  exact rep_str_of _ _ _
end Qv

end

section
open Go Go.Proofs Go.RowKit
namespace Qv
def parts (c : UInt8) : Bytes → List Bytes
 | [] => [[]]
 | b :: l => if b = c then [] :: parts c l else match parts c l with
   | [] => [[b]]
   | x :: r => (b :: x) :: r
theorem split_cons_eq (c : UInt8) (l : Bytes) : Lib.split (c :: l) [c] = [] :: Lib.split l [c] := by
 have hix : Lib.index (c :: l) [c] = ((0 : Nat) : Int) := by rw [Lib.index]; simp [List.isPrefixOf]
 unfold Lib.split
 rw [Lib.count_cons_eq,Nat.add_comm,Lib.splitK,hix]
 simp
theorem split_cons_ne (b c : UInt8) (l : Bytes) (h : b ≠ c) : ∃ x r,Lib.split l [c] = x :: r ∧ Lib.split (b :: l) [c] = (b :: x) :: r := by
 have hp : ([c] : List UInt8).isPrefixOf (b :: l) = false := by simp [List.isPrefixOf,Ne.symm h]
 have hix : Lib.index (b :: l) [c] = if Lib.index l [c] == -1 then -1 else Lib.index l [c] + 1 := by rw [Lib.index,hp]; simp
 unfold Lib.split
 rw [Lib.count_cons_ne b c l h]
 cases hk : Lib.count l [c] with
 | zero => exact ⟨l,[],rfl,rfl⟩
 | succ k =>
   by_cases hm : Lib.index l [c] = -1
   ·rw [Lib.count_miss hm] at hk; cases hk
   ·have hge := Lib.index_ge l [c]
    obtain ⟨j,hj⟩ : ∃ j : Nat,Lib.index l [c] = j := ⟨(Lib.index l [c]).toNat,by omega⟩
    have hix' : Lib.index (b :: l) [c] = ((j + 1 : Nat) : Int) := by rw [hix,if_neg (fun e => hm (beq_iff_eq.1 e)),hj]; omega
    refine ⟨l.take j,Lib.splitK [c] 0 k (l.drop (j + 1)),?_,?_⟩
    ·rw [Lib.splitK,hj,if_neg (by simp)]
     simp
    ·rw [Lib.splitK,hix',if_neg (by simp; omega)]
     simp
theorem split_parts (c : UInt8) : ∀ s : Bytes,Lib.split s [c] = parts c s
 | [] => by
   have : Lib.count ([] : Bytes) [c] = 0 := by rw [Lib.count_miss]; simp [Lib.index]
   unfold Lib.split
   rw [this]
   rfl
 | b :: l => by
   by_cases h : b = c
   ·subst h
    rw [split_cons_eq,split_parts b l]
    simp [parts]
   ·obtain ⟨x,r,h1,h2⟩ := split_cons_ne b c l h
    rw [h2]
    rw [split_parts c l] at h1
    simp only [parts,if_neg h,h1]
theorem parts_length (c : UInt8) : ∀ s : Bytes,(parts c s).length ≤ s.length + 1
 | [] => by simp [parts]
 | b :: l => by
   have := parts_length c l
   simp only [parts]
   split
   ·simp only [List.length_cons]; omega
   ·split
    ·simp
    ·rename_i x r h
     rw [h] at this
     simp only [List.length_cons] at *; omega
theorem parts_mem (c : UInt8) : ∀ (s x : Bytes),x ∈ parts c s → x.length ≤ s.length
 | [],x,h => by simp [parts] at h; subst h; simp
 | b :: l,x,h => by
   have ih := parts_mem c l
   simp only [parts] at h
   split at h
   ·rcases List.mem_cons.1 h with rfl | h
    ·simp
    ·have := ih x h; simp only [List.length_cons]; omega
   ·split at h
    ·simp at h; subst h; simp
    ·rename_i y r hy
     rcases List.mem_cons.1 h with rfl | h
     ·have := ih y (by rw [hy]; simp); simp only [List.length_cons]; omega
     ·have := ih x (by rw [hy]; simp [h]); simp only [List.length_cons]; omega
end Qv

end

section
open Go Go.Proofs Go.RowKit
namespace Qv
structure Comp where
 deep : Bool
 ones : List Atom
def encOnes (l : List Atom) : List (List AV) := l.map Atom.enc
def Comp.enc (c : Comp) : List AV := [.bool c.deep,.sl (encOnes c.ones)]
def encComps (l : List Comp) : List (List AV) := l.map Comp.enc
def onesGo (s : Bytes) : Nat → Nat → List Atom → Option (List Atom)
 | 0,_,_ => none
 | f + 1,n,acc => if n < s.length then match oneF s n with
     | none => none
     | some (a,n') => onesGo s f n' (acc ++ [a])
   else some acc
def compF (p : Bytes) : Option Comp :=
 if p = [] then none else if p = [42,42] then some ⟨true,[]⟩ else match onesGo p (p.length + 1) 0 [] with
  | none => none
  | some l => some ⟨false,l⟩
def compsGo : List Bytes → List Comp → Option (List Comp)
 | [],acc => some acc
 | p :: r,acc => match compF p with
   | none => none
   | some c => compsGo r (acc ++ [c])
def parseF (s : Bytes) : List Comp × Int :=
 if 200 < s.length then ([],4) else match compsGo (parts 47 s) [] with
  | none => ([],3)
  | some l => (l,0)
theorem oneF_le {s : Bytes} {n : Nat} {a : Atom} {n' : Nat} (h : oneF s n = some (a,n')) : n < n' ∧ n' ≤ s.length ∧ a.fine := by
 unfold oneF at h
 split at h
 ·cases h
 ·rename_i c hc
  have hlt := (List.getElem?_eq_some_iff.1 hc).1
  split at h
  ·simp only [Option.some.injEq,Prod.mk.injEq] at h
   obtain ⟨rfl,rfl⟩ := h
   exact ⟨by omega,by omega,trivial⟩
  split at h
  ·simp only [Option.some.injEq,Prod.mk.injEq] at h
   obtain ⟨rfl,rfl⟩ := h
   exact ⟨by omega,by omega,trivial⟩
  split at h
  ·split at h
   ·rename_i set neg n2 hq
    simp only [Option.some.injEq,Prod.mk.injEq] at h
    obtain ⟨rfl,rfl⟩ := h
    obtain ⟨h1,h2,h3⟩ := clsF_le hq
    exact ⟨by omega,h2,h3⟩
   ·cases h
  ·split at h
   ·rename_i d n2 hq
    simp only [Option.some.injEq,Prod.mk.injEq] at h
    obtain ⟨rfl,rfl⟩ := h
    have := plainF_le s n (by omega)
    rw [hq] at this
    exact ⟨this.2.2 rfl,this.2.1,trivial⟩
   ·cases h
theorem hasO_two {objs : List (Nat × List FV)} {o : Nat} {x y x' y' : FV} (h : Qv.getObj objs o = some [x,y]) (h1 : Weak x x') (h2 : Weak y y') :
 ∃ ys,Qv.getObj objs o = some ys ∧ ys.length = [x',y'].length ∧ ∀ (i : Nat) (a b : FV),ys[i]? = some a → [x',y'][i]? = some b → Weak a b :=
 ⟨_,h,rfl,fun i a b q1 q2 => by
  match i,q1,q2 with
  | 0,q1,q2 => cases q1; cases q2; exact h1
  | 1,q1,q2 => cases q1; cases q2; exact h2⟩
abbrev parseSlots (s part : Bytes) (comps : List Comp) (P : List Bytes) (i : Nat) : List (Nat × FV) :=
 [(4,.tip 57 130 2 (encComps comps)),(6,.p (.str part)),(7,.ptr 7 0),(8,.ptr 28 0),(15,.p (encS P)),(16,.p (.int .i64 (P.map enc1).length)),(17,.p (.int .i64 i))]
def Inv2 (part : Bytes) (deep : Bool) (Y : Option (List Atom)) (x : Nat × List Atom) : Prop :=
 x.1 ≤ part.length ∧ x.2.length ≤ x.1 ∧ (deep = true → x.2 = []) ∧ (deep = false → ∃ f,part.length + 1 - x.1 ≤ f ∧ onesGo part f x.1 x.2 = Y)
theorem parse_ok (s : Bytes) (hs : s.length ≤ 2 ^ 30) : CallsTo C 162 [.str s] (fun r => r = .val (.tup [.sl (encComps (parseF s).1),.int .i64 (parseF s).2])) := by
 refine callsTo_of_evO ⟨[],[],false,[],[],[]⟩ [16] Tryz.func162 rfl rfl rfl ?_
 refine al_dec (fun hgt => ?_) (fun hgt => ?_)
 ·have : 200 < s.length := by omega
  have hp : parseF s = ([],4) := by simp only [parseF,if_pos this]
  rw [hp]
  exact rfl
 have hle : ¬ 200 < s.length := by omega
 have hp : parseF s = match compsGo (parts 47 s) [] with
  | none => ([],3)
  | some l => (l,0) := by simp only [parseF,if_neg hle]
 rw [hp]
 refine ⟨_,(split_ok s [47] (by omega) (by simp)).opn,fun r hr => ?_⟩
 rw [split_parts] at hr
 subst hr
 have hPl := parts_length 47 s
 have hPm := parts_mem 47 s
 generalize parts 47 s = P at hPl hPm ⊢
 generalize hX : compsGo P [] = X
 refine loopR 60 (fun x : Nat × List Comp => [(4,.tip 57 130 2 (encComps x.2)),(15,.p (encS P)),(16,.p (.int .i64 (P.map enc1).length)),(17,.p (.int .i64 x.1))]) (fun _ => [])
  (fun x => x.1 ≤ P.length ∧ x.2.length ≤ x.1 ∧ compsGo (P.drop x.1) x.2 = X) (fun x => P.length - x.1) (0,[]) ⟨Nat.zero_le _,Nat.le_refl _,hX⟩ rfl ⟨Weak.full_tip _ _ _,wR,wR,wR,trivial⟩ trivial ?_
 clear hX
 rintro ⟨i,comps⟩ ⟨hi,hcl,hX⟩
 have hi : i ≤ P.length := hi
 have hcl : comps.length ≤ i := hcl
 have hX : compsGo (P.drop i) comps = X := hX
 refine al_lt (fun hlt => ?_) (fun hge => ?_)
 ·have hlt : i < P.length := hlt
  have hpl : (P[i]).length ≤ s.length := hPm _ (List.getElem_mem hlt)
  rw [List.drop_eq_getElem_cons hlt] at hX
  refine ⟨by omega,_,idx_map rfl hlt,rfl,?_⟩
  generalize P[i] = part at hpl hX ⊢
  refine al_eq (fun he => ?_) (fun he => ?_)
  ·have hx : X = none := by rw [← hX]; simp only [compsGo,compF,if_pos (show part = [] from he)]
   rw [hx]
   exact rfl
  ·have he : part ≠ [] := he
   refine ⟨fun deep hdeep => ?_⟩
   have hcomp : compF part = if deep = true then some ⟨true,[]⟩ else match onesGo part (part.length + 1) 0 [] with
    | none => none
    | some l => some ⟨false,l⟩ := by
    have hd : (deep = true) = (part = [42,42]) := by rw [hdeep]; exact propext beq_iff_eq
    unfold compF
    rw [if_neg he]
    by_cases h : part = [42,42]
    ·rw [if_pos h,if_pos (hd ▸ h)]
    ·rw [if_neg h,if_neg (hd ▸ h)]
   clear hdeep
   generalize hY : onesGo part (part.length + 1) 0 [] = Y at hcomp
   refine loopR 60 (fun x : Nat × List Atom => parseSlots s part comps P i) (fun x => [(28,mapP (encP part x.1)),(7,[.p (.bool deep),.tip 52 184 4 (encOnes x.2)])])
    (Inv2 part deep Y) (fun x => part.length - x.1) (0,[])
    ⟨Nat.zero_le _,Nat.le_refl _,fun _ => rfl,fun _ => ⟨_,Nat.le_refl _,hY⟩⟩ rfl ⟨wR,wR,wR,wR,wR,wR,wR,trivial⟩
    ⟨hasO_two (x := .p (.str part)) (y := .p (.int .i64 0)) rfl (wR) (wR),hasO_two (x := .p (.bool deep)) (y := .full []) rfl (wR) (Weak.full_tip _ _ _),trivial⟩ ?_
   clear hY
   rintro ⟨n,ones⟩ ⟨hn,hol,hd1,hd2⟩
   have hn : n ≤ part.length := hn
   have hol : ones.length ≤ n := hol
   have hd1 : deep = true → ones = [] := hd1
   have hd2 : deep = false → ∃ f,part.length + 1 - n ≤ f ∧ onesGo part f n ones = Y := hd2
   refine ⟨none,?_⟩
   refine share (T := ?T) (fun H => ?main) ?rest
   case main =>
    refine al_dec (fun hlt2 => ?_) (fun hge2 => ?_)
    ·have hlt2 : n < part.length := by
      have : (n : Int) < (part.length : Int) := hlt2
      omega
     cases hdp : deep with
     | true =>
       refine al_not ?_
       have hc : compF part = some ⟨deep,ones⟩ := by rw [hcomp,if_pos hdp,hdp,hd1 hdp]
       refine cutR 60 (parseSlots s part comps P i) [(7,[.p (.bool deep),.tip 52 184 4 (encOnes ones)])] rfl ⟨wR,wR,wR,wR,wR,wR,wR,trivial⟩ ⟨hasO_two (x := .p (.bool true)) (y := .tip 52 184 4 (encOnes ones)) rfl (by rw [hdp]; exact wR) (wR),trivial⟩ ?_
       revert hc
       exact H.out
     | false =>
       refine al_not ?_
       obtain ⟨f,hf,hY⟩ := hd2 hdp
       obtain ⟨f,rfl⟩ : ∃ f',f = f' + 1 := ⟨f - 1,by omega⟩
       refine .inr (.inr ⟨_,(one_ok part n (by omega) hlt2).opn,?_⟩)
       intro r ys hr
       rcases hq : oneF part n with _ | ⟨a,n'⟩
       ·rw [hq] at hr
        obtain ⟨a,rfl,m,hm,rfl⟩ := hr
        have hx : X = none := by
         rw [← hX]
         have hc : compF part = none := by
          rw [hcomp,hdp,if_neg (by simp),← hY]
          simp only [onesGo,if_pos hlt2,hq]
         simp only [compsGo,hc]
        rw [hx]
        cases a <;> exact al_not rfl
       ·rw [hq] at hr
        obtain ⟨rfl,rfl⟩ := hr
        have hle3 := oneF_le hq
        have hY2 : onesGo part f n' (ones ++ [a]) = Y := by
         rw [← hY]
         simp only [onesGo,if_pos hlt2,hq]
        have hlo : ∀ zs,zs ∈ encOnes ones → zs.length = 4 := fun zs hz => by
         obtain ⟨c,-,rfl⟩ := List.mem_map.1 hz
         cases c <;> rfl
        have hbd : ((encOnes ones).length + 1) * 16 ≤ 140737488355328 := by
         simp only [encOnes,List.length_map]
         omega
        have hnew : Inv2 part deep Y (n',ones ++ [a]) := ⟨hle3.2.1,by show (ones ++ [a]).length ≤ n'; rw [List.length_append]; show ones.length + 1 ≤ n'; omega,fun h => absurd (hdp ▸ h) (by simp),fun _ => ⟨f,by show part.length + 1 - n' ≤ f; omega,hY2⟩⟩
        rw [hdp] at hnew
        have happ : encOnes ones ++ [a.enc] = encOnes (ones ++ [a]) := by simp [encOnes]
        cases a <;> (
         refine al_not ?_
         refine ⟨hlo,fun zs hz => by rw [List.mem_singleton.1 hz]; rfl,hbd,_,happ,?_⟩
         exact roundR (n',_) hnew (by show part.length - n' < part.length - n; omega) rfl ⟨wR,wR,wR,wR,wR,wR,wR,trivial⟩ ⟨hO1 rfl,hO1 rfl,trivial⟩)
    ·have hge2 : ¬ n < part.length := by
      intro h
      exact hge2 (show (n : Int) < (part.length : Int) by omega)
     have hc : compF part = some ⟨deep,ones⟩ := by
      rw [hcomp]
      cases hdp : deep with
      | true => rw [if_pos rfl,hd1 hdp]
      | false =>
        obtain ⟨f,hf,hY⟩ := hd2 hdp
        obtain ⟨f,rfl⟩ : ∃ f',f = f' + 1 := ⟨f - 1,by omega⟩
        simp only [onesGo,if_neg hge2] at hY
        rw [← hY]
        rfl
     refine cutR 60 (parseSlots s part comps P i) [(7,[.p (.bool deep),.tip 52 184 4 (encOnes ones)])] rfl ⟨wR,wR,wR,wR,wR,wR,wR,trivial⟩ ⟨hO1 rfl,trivial⟩ ?_
     revert hc
     exact H.out
   case rest =>
    intro hc
    simp only [compsGo,hc] at hX
    have hlc : ∀ zs,zs ∈ encComps comps → zs.length = 2 := fun zs hz => by
     obtain ⟨c,-,rfl⟩ := List.mem_map.1 hz
     rfl
    refine ⟨hlc,fun zs hz => by rw [List.mem_singleton.1 hz]; rfl,?_,encComps (comps ++ [⟨deep,ones⟩]),by simp [encComps]; rfl,?_⟩
    ·show ((encComps comps).length + 1) * 32 ≤ 140737488355328
     simp only [encComps,List.length_map]
     omega
    ·refine ⟨((i + 1 : Nat) : Int),by rw [wrap64 (by omega) (by omega)]; omega,?_⟩
     refine roundR (i + 1,comps ++ [⟨deep,ones⟩]) ⟨hlt,by simp; omega,hX⟩ (by show P.length - (i + 1) < P.length - i; omega) rfl ⟨wR,wR,wR,wR,trivial⟩ trivial
 ·have hge : ¬ i < P.length := hge
  have hie : i = P.length := by omega
  rw [hie,List.drop_length] at hX
  have hx : X = some comps := by rw [← hX]; rfl
  rw [hx]
  exact rfl
end Qv

end

section
open Go Go.Proofs Go.RowKit
namespace Qv
def deepAt (cs : List Comp) (t : Nat) : Prop := ∃ c,cs[t]? = some c ∧ c.deep = true
def closP (cs : List Comp) (i j : Nat) : Prop := i ≤ j ∧ ∀ t,i ≤ t → t < j → deepAt cs t
theorem closP.refl (cs : List Comp) (i : Nat) : closP cs i i := ⟨Nat.le_refl _,fun t h1 h2 => by omega⟩
end Qv

end

section
open Go Go.Proofs Go.RowKit
namespace Qv
def Atom.isStar : Atom → Bool
 | .star => true
 | _ => false
def endedF (ones : List Atom) (k : Nat) : Bool := (ones.drop k).all Atom.isStar
end Qv

end
