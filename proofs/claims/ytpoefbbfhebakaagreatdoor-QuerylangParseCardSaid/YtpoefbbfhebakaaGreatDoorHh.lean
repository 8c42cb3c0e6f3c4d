/- Several texts in one: The reference's reader of queries: the contracts of unit, link and chain, by the fuel and what follows. No condition. -/
import Derived.Test.YtpoefbbfhebakaaGreatDoorHg
set_option linter.unusedVariables false
set_option linter.unusedSimpArgs false

section
open Go Go.Proofs Go.RowKit
namespace Qv
theorem Suf.none {s u : Bytes} (h : Suf s u) : Suf s [] := by
 obtain ⟨p,rfl⟩ := h
 exact ⟨p ++ u,by simp⟩
theorem text_suf {s u : Bytes} (h : Suf s u) : Suf s (textR u).2.1 := by
 have hv := h.unbl
 unfold textR
 cases hV : unbl u with
 | nil => exact h.none
 | cons c r =>
   rw [hV] at hv
   simp only
   split
   ·cases hs : strGo r with
    | none => exact hv
    | some p =>
      obtain ⟨d,e,-⟩ := strGo_local hs
      have := hv.tail
      rw [e] at this
      exact this.app
   ·exact hv
theorem number_suf {s u : Bytes} (h : Suf s u) : Suf s (numberR u).2.1 := by
 unfold numberR
 split
 ·exact h.unbl.dropW
 ·exact h.unbl
theorem close_suf {s u : Bytes} (q : Qy) (b : Bool) (h : Suf s u) : Suf s (closeR q u b).2.1 := by
 have hv := h.unbl
 unfold closeR
 split
 ·exact hv
 ·cases hV : unbl u with
  | nil => exact h.none
  | cons c r =>
    rw [hV] at hv
    simp only
    split
    ·exact hv.tail
    ·exact hv
theorem worded_suf {s : Bytes} {f : Bytes → RO} (hf : ∀ u x,Suf s u → f u = some x → Suf s x.2.1) (k : Nat) {u : Bytes} {x : Qy × Bytes × Bool} (h : Suf s u) (e : wordedR f k u = some x) : Suf s x.2.1 := by
 unfold wordedR at e
 split at e
 ·obtain rfl := Option.some.inj e; exact text_suf h
 ·split at e
  ·obtain rfl := Option.some.inj e; exact number_suf h
  ·split at e
   ·cases hr : f u with
    | none => rw [hr] at e; cases e
    | some y =>
      obtain ⟨q,w,b⟩ := y
      rw [hr] at e
      obtain rfl := Option.some.inj e
      have hq := hf u (q,w,b) h hr
      exact hq
   ·obtain rfl := Option.some.inj e; exact h
theorem goR_suf {s : Bytes} : ∀ (f : Nat) (m : MR) (u : Bytes) (x : Qy × Bytes × Bool),Suf s u → goR f m u = some x → Suf s x.2.1
 | 0,_,_,_,_,e => by cases e
 | f + 1,.unit,u,x,h,e => by
   have hv := h.unbl
   unfold goR at e
   split at e
   ·rename_i hh
    cases hV : unbl u with
    | nil => rw [hV] at hh; cases hh
    | cons c r =>
      rw [hV] at e hv
      cases hr : goR f (.chain 11) (c :: r).tail with
      | none => rw [hr] at e; cases e
      | some y =>
        obtain ⟨q,w,b⟩ := y
        rw [hr] at e
        obtain rfl := Option.some.inj e
        exact close_suf _ _ (goR_suf f _ _ _ hv.tail hr)
   ·split at e
    ·obtain rfl := Option.some.inj e; exact hv
    ·exact worded_suf (fun u x => goR_suf f _ u x) _ hv.dropW e
 | f + 1,.chain k,u,x,h,e => by
   unfold goR at e
   cases hr : goR f (linkM k) u with
   | none => rw [hr] at e; cases e
   | some y =>
     obtain ⟨q,w,b⟩ := y
     rw [hr] at e
     exact goR_suf f _ _ _ (goR_suf f _ _ _ h hr) e
 | f + 1,.loop k q b,u,x,h,e => by
   unfold goR at e
   split at e
   ·obtain rfl := Option.some.inj e; exact h
   ·split at e
    ·obtain rfl := Option.some.inj e; exact h
    ·cases hr : goR f (linkM k) ((unbl u).dropWhile letterB) with
     | none => rw [hr] at e; cases e
     | some y =>
       obtain ⟨q,w,b⟩ := y
       rw [hr] at e
       exact goR_suf f _ _ _ (goR_suf f _ _ _ h.unbl.dropW hr) e
def outR (s : Bytes) (x : Qy × Bytes × Bool) : AV := .tup [.agg (encQy x.1),.agg (encR s x.2.1 x.2.2)]
def UnitC (s : Bytes) (f : Nat) : Prop := ∀ f',f' ≤ f → ∀ u x,Suf s u → goR f' .unit u = some x → CallsTo C 156 [.agg (encR s u false)] (fun q => q = .val (outR s x))
def ChainC (s : Bytes) (f : Nat) : Prop := ∀ f',f' ≤ f → ∀ (k : Nat) u x,k = 10 ∨ k = 11 → Suf s u → goR f' (.chain k) u = some x → CallsTo C 63 [.agg (encR s u false),.int .i64 k] (fun q => q = .val (outR s x))
def LinkC (s : Bytes) (f : Nat) : Prop := ∀ f',f' ≤ f → ∀ (k : Nat) u x,k = 10 ∨ k = 11 → Suf s u → goR f' (linkM k) u = some x → CallsTo C 118 [.agg (encR s u false),.int .i64 k] (fun q => q = .val (outR s x))
theorem linkR_ok {s : Bytes} {f : Nat} (hU : UnitC s f) (hC : ChainC s f) : LinkC s f := by
 intro f' hf k u x hk hu hx
 obtain ⟨⟨k1,t1,n1,l1⟩,w,b⟩ := x
 refine cTo' Tryz.func118 rfl rfl rfl ?_
 refine al_eq (fun h => ?_) (fun h => ?_)
 ·have h : (k : Int) = 11 := h
  have hx : goR f' (.chain 10) u = some (.mk k1 t1 n1 l1,w,b) := by
   have : linkM k = .chain 10 := if_pos (by omega)
   rw [this] at hx
   exact hx
  have hc := hC f' hf 10 u _ (.inl rfl) hu hx
  have hc : CallsTo C 63 [.agg (encR s u false),.int .i64 10] (fun q => q = .val (outR s (.mk k1 t1 n1 l1,w,b))) := hc
  refine ⟨_,hc,fun q hq => ?_⟩
  subst hq
  exact rfl
 ·have h : ¬ (k : Int) = 11 := h
  have hx : goR f' .unit u = some (.mk k1 t1 n1 l1,w,b) := by
   have : linkM k = .unit := if_neg (by omega)
   rw [this] at hx
   exact hx
  refine ⟨_,hU f' hf u _ hu hx,fun q hq => ?_⟩
  subst hq
  exact rfl
theorem chainR_ok {s : Bytes} (hs : s.length ≤ 2 ^ 40) {f : Nat} (hL : LinkC s f) (k : Nat) (u : Bytes) (x : Qy × Bytes × Bool) (hk : k = 10 ∨ k = 11) (hu : Suf s u) (hx : goR (f + 1) (.chain k) u = some x) :
 CallsTo C 63 [.agg (encR s u false),.int .i64 k] (fun q => q = .val (outR s x)) := by
 refine cTo' Tryz.func63 rfl rfl rfl ?_
 unfold goR at hx
 cases hr : goR f (linkM k) u with
 | none => rw [hr] at hx; cases hx
 | some y =>
 obtain ⟨⟨k1,t1,n1,l1⟩,w,b⟩ := y
 rw [hr] at hx
 have hx : goR f (.loop k (.mk k1 t1 n1 l1) b) w = some x := hx
 refine ⟨_,hL f (Nat.le_refl _) k u _ hk hu hr,fun q hq => ?_⟩
 subst hq
 have hw := goR_suf f _ _ _ hu hr
 refine loopR 53 (fun y : Nat × (Int × Bytes × Int × List Qy) × Bytes × Bool => [(1,.p (.int .i64 k)),(2,.ptr 2 0),(4,.ptr 4 0),(5,.ptr 5 0),(6,.ptr 6 0)])
  (fun y => [(2,mapP (encR s y.2.2.1 y.2.2.2)),(4,mapP [.int .i64 0,.str [],.int .i64 0,.sl []]),(5,mapP [.str [],.int .i64 0,.bool false]),(6,mapP [.int .i64 y.2.1.1,.str y.2.1.2.1,.int .i64 y.2.1.2.2.1,.sl (encQyL y.2.1.2.2.2)])])
  (fun y => y.1 ≤ f ∧ Suf s y.2.2.1 ∧ goR y.1 (.loop k (.mk y.2.1.1 y.2.1.2.1 y.2.1.2.2.1 y.2.1.2.2.2) y.2.2.2) y.2.2.1 = some x) (fun y => y.1) (f,(k1,t1,n1,l1),w,b)
  ⟨Nat.le_refl _,hw,hx⟩ rfl ⟨wR,wR,wR,wR,wR,trivial⟩ ⟨hO1 rfl,hasO_q rfl (Weak.full_p _),hO1 rfl,hO1 rfl,trivial⟩ ?_
 clear hx hw hr
 rintro ⟨f',⟨k1,t1,n1,l1⟩,w,b⟩ ⟨hf,hw,hx⟩
 have hf : f' ≤ f := hf
 have hw : Suf s w := hw
 have hx : goR f' (.loop k (.mk k1 t1 n1 l1) b) w = some x := hx
 cases f' with
 | zero => cases hx
 | succ f' =>
 unfold goR at hx
 refine al_not ?_
 cases b with
 | true =>
   have hx : some (Qy.mk k1 t1 n1 l1,w,true) = some x := hx
   obtain rfl := Option.some.inj hx
   refine ⟨.plan ⟨[1],[2,3],[],[2]⟩ (.one 0 (.one 1 (.alt 2 (.alt 3 .fin .stop) .stop))) none,by kernel_rfl,_,rfl,_,rfl,rfl,rfl,rfl,?_⟩
   exact rfl
 | false =>
   have hv := hw.unbl
   rw [if_neg (by simp)] at hx
   refine ⟨_,blankR_ok s hs w false hw,fun q hq => ?_⟩
   subst hq
   refine ⟨_,wordR_ok s hs (unbl w) false hv,fun q hq => ?_⟩
   subst hq
   refine ⟨_,words_ok,fun q hq => ?_⟩
   subst hq
   refine ⟨by omega,_,words_get k (by omega),rfl,?_⟩
   refine al_nes (fun h => ?_) (fun h => ?_)
   ·have h : (unbl w).takeWhile letterB ≠ wordB k := h
    rw [if_pos h] at hx
    obtain rfl := Option.some.inj hx
    refine ⟨.plan ⟨[1],[2,3],[],[2]⟩ (.one 0 (.one 1 (.alt 2 (.alt 3 .fin .stop) .stop))) none,by kernel_rfl,_,rfl,_,rfl,rfl,rfl,rfl,?_⟩
    exact rfl
   ·have h : (unbl w).takeWhile letterB = wordB k := h
    rw [if_neg (by rw [h]; simp)] at hx
    have hoff : offR s ((unbl w).dropWhile letterB) = offR s (unbl w) + (wordB k).length := by
     have e : unbl w = (unbl w).takeWhile letterB ++ (unbl w).dropWhile letterB := (List.takeWhile_append_dropWhile).symm
     have h2 := hv
     rw [e] at h2
     have := offR_app h2
     rw [← e,h] at this
     exact this
    have hle := offR_le s ((unbl w).dropWhile letterB)
    have hwr : IntKind.i64.wrap ((offR s (unbl w) : Int) + ((wordB k).length : Int)) = (offR s ((unbl w).dropWhile letterB) : Int) := by rw [wrap64 (by omega) (by omega)]; omega
    refine lex2 9 (by kernel_rfl) ?_
    refine ⟨_,words_ok,?_⟩
    refine ⟨by omega,_,words_get k (by omega),rfl,?_⟩
    refine ⟨_,hwr,?_⟩
    cases hr : goR f' (linkM k) ((unbl w).dropWhile letterB) with
    | none => rw [hr] at hx; cases hx
    | some y =>
    obtain ⟨⟨k2,t2,n2,l2⟩,w2,b2⟩ := y
    rw [hr] at hx
    have hx : goR f' (.loop k (.mk k [] 0 [.mk k1 t1 n1 l1,.mk k2 t2 n2 l2]) b2) w2 = some x := hx
    refine ⟨_,hL f' (by omega) k _ _ hk hv.dropW hr,fun q hq => ?_⟩
    subst hq
    exact roundR (f',(k,[],0,[.mk k1 t1 n1 l1,.mk k2 t2 n2 l2]),w2,b2) ⟨by show f' ≤ f; omega,goR_suf f' _ _ _ hv.dropW hr,hx⟩ (Nat.lt_succ_self _) rfl ⟨wR,wR,wR,wR,wR,trivial⟩ ⟨hO1 rfl,hO1 rfl,hO1 rfl,hasO_q rfl (Weak.tip_p _ _ _ _),trivial⟩
end Qv

end

section
open Go Go.Proofs Go.RowKit
namespace Qv
set_option maxHeartbeats 2000000 in
theorem unitR_ok {s : Bytes} (hs : s.length ≤ 2 ^ 40) {f : Nat} (hU : UnitC s f) (hC : ChainC s f) (u : Bytes) (x : Qy × Bytes × Bool) (hu : Suf s u) (hx : goR (f + 1) .unit u = some x) :
 CallsTo C 156 [.agg (encR s u false)] (fun q => q = .val (outR s x)) := by
 have hv := hu.unbl
 refine cTo' Tryz.func156 rfl rfl rfl ?_
 refine ⟨_,blankR_ok s hs u false hu,fun q hq => ?_⟩
 subst hq
 unfold goR at hx
 generalize unbl u = V at hx hv ⊢
 obtain ⟨b,hb⟩ : ∃ b,decide (V.head? = some 40) = b := ⟨_,rfl⟩
 refine ⟨some (fun vs => vs = [.p (.bool b)]),keepA (.p (.bool b)) 25 rfl ?_ ?_⟩
 ·cases V with
  | nil =>
    have e : offR s [] = s.length := offR_nil s
    refine al_dec (fun h => absurd (show (offR s [] : Int) < (s.length : Int) from h) (by omega)) (fun _ => ?_)
    have hb : false = b := hb
    subst hb
    exact rfl
  | cons c r =>
    have hlt := offR_lt hv
    refine al_dec (fun _ => ?_) (fun h => absurd (show (offR s (c :: r) : Int) < (s.length : Int) by omega) h)
    refine ⟨by omega,c,idx_str rfl hv.at,?_⟩
    refine al_eq (fun h => ?_) (fun h => ?_)
    ·have h : c = 40 := u8_eq (d := 40) h
     subst h
     have hb : true = b := by rw [← hb]; rfl
     subst hb
     exact rfl
    ·have h : ¬ c = 40 := by rintro rfl; exact h rfl
     have hb : false = b := by rw [← hb]; exact (decide_eq_false (fun e => h (Option.some.inj e))).symm
     subst hb
     exact rfl
 cases b with
 | true =>
   have hh := of_decide_eq_true hb
   cases V with
   | nil => cases hh
   | cons c r =>
   obtain rfl : c = 40 := Option.some.inj hh
   rw [if_pos hh] at hx
   have hx : (match goR f (.chain 11) r with
    | some (q,w,b) => some (closeR q w b)
    | none => none) = some x := hx
   have hlt := offR_lt hv
   have ht := offR_tail hv
   have hw1 : IntKind.i64.wrap ((offR s (40 :: r) : Int) + 1) = (offR s r : Int) := by rw [wrap64 (by omega) (by omega)]; omega
   refine ⟨_,hw1,?_⟩
   cases hr : goR f (.chain 11) r with
   | none => rw [hr] at hx; cases hx
   | some y =>
   obtain ⟨⟨k1,t1,n1,l1⟩,w,b⟩ := y
   rw [hr] at hx
   have hx : some (closeR (.mk k1 t1 n1 l1) w b) = some x := hx
   obtain rfl := Option.some.inj hx
   have hw := goR_suf f _ _ _ hv.tail hr
   have hw : Suf s w := hw
   have hc := hC f (Nat.le_refl _) 11 r _ (.inr rfl) hv.tail hr
   have hc : CallsTo C 63 [.agg (encR s r false),.int .i64 11] (fun q => q = .val (outR s (.mk k1 t1 n1 l1,w,b))) := hc
   refine ⟨_,hc,fun q hq => ?_⟩
   subst hq
   refine ⟨_,blankR_ok s hs w b hw,fun q hq => ?_⟩
   subst hq
   have hv2 := hw.unbl
   refine ⟨none,?_⟩
   cases b with
   | true =>
     refine lex2 3 (by kernel_rfl) ?_
     refine ⟨_,failR_ok s (unbl w) true,?_⟩
     exact rfl
   | false =>
     have e1 : closeR (.mk k1 t1 n1 l1) w false = match unbl w with
      | [] => (.mk k1 t1 n1 l1,[],true)
      | c :: r => if c = 41 then (.mk k1 t1 n1 l1,r,false) else (.mk k1 t1 n1 l1,c :: r,true) := rfl
     rw [e1]
     generalize unbl w = V2 at hv2 ⊢
     cases V2 with
     | nil =>
       have e : offR s [] = s.length := offR_nil s
       refine al_eq (fun _ => ?_) (fun h => absurd (show (offR s [] : Int) = (s.length : Int) by omega) h)
       refine lex2 3 (by kernel_rfl) ?_
       refine ⟨_,failR_ok s [] false,?_⟩
       exact rfl
     | cons c r2 =>
       have hlt2 := offR_lt hv2
       have ht2 := offR_tail hv2
       have hw2 : IntKind.i64.wrap ((offR s (c :: r2) : Int) + 1) = (offR s r2 : Int) := by rw [wrap64 (by omega) (by omega)]; omega
       refine al_eq (fun h => absurd (show (offR s (c :: r2) : Int) = (s.length : Int) from h) (by omega)) (fun _ => ?_)
       refine ⟨by omega,c,idx_str rfl hv2.at,?_⟩
       refine al_ne (fun h => ?_) (fun h => ?_)
       ·have h : ¬ c = 41 := by rintro rfl; exact h rfl
        refine lex2 3 (by kernel_rfl) ?_
        refine ⟨_,failR_ok s (c :: r2) false,?_⟩
        show _ = Ret.val (outR s (if c = 41 then _ else _))
        rw [if_neg h]
        exact rfl
       ·have h : c = 41 := u8_eq (d := 41) h
        refine ⟨_,hw2,?_⟩
        refine ⟨.plan ⟨[1],[2,3],[],[5]⟩ (.one 0 (.one 1 (.alt 2 (.alt 3 .fin .stop) .stop))) none,by kernel_rfl,_,rfl,_,rfl,rfl,rfl,rfl,?_⟩
        show _ = Ret.val (outR s (if c = 41 then _ else _))
        rw [if_pos h]
        exact rfl
 | false =>
   have hh := of_decide_eq_false hb
   rw [if_neg hh] at hx
   refine ⟨_,wordR_ok s hs V false hv,fun q hq => ?_⟩
   subst hq
   refine ⟨_,kindR_ok _,fun q hq => ?_⟩
   subst hq
   have hR := hv.dropW
   have hoff : offR s (V.dropWhile letterB) = offR s V + (V.takeWhile letterB).length := by
    have e : V = V.takeWhile letterB ++ V.dropWhile letterB := (List.takeWhile_append_dropWhile).symm
    have h2 := hv
    rw [e] at h2
    have := offR_app h2
    rw [← e] at this
    exact this
   have hle := offR_le s (V.dropWhile letterB)
   generalize V.dropWhile letterB = R at hR hoff hle hx
   generalize V.takeWhile letterB = W at hoff hx ⊢
   generalize kindR W = k at hx ⊢
   have hwr : IntKind.i64.wrap ((offR s V : Int) + (W.length : Int)) = (offR s R : Int) := by rw [wrap64 (by omega) (by omega)]; omega
   obtain ⟨b,hb⟩ : ∃ b,decide (k = 0 ∨ k = 10 ∨ k = 11) = b := ⟨_,rfl⟩
   refine ⟨some (fun vs => vs = [.p (.bool b)]),keepA (.p (.bool b)) 81 rfl ?_ ?_⟩
   ·refine al_eq (fun h => ?_) (fun h => ?_)
    ·have h : (k : Int) = 0 := h
     have hb : true = b := by rw [← hb]; exact (decide_eq_true (.inl (by omega))).symm
     subst hb
     exact rfl
    ·have h : ¬ (k : Int) = 0 := h
     refine al_eq (fun h2 => ?_) (fun h2 => ?_)
     ·have h2 : (k : Int) = 10 := h2
      have hb : true = b := by rw [← hb]; exact (decide_eq_true (.inr (.inl (by omega)))).symm
      subst hb
      exact rfl
     ·have h2 : ¬ (k : Int) = 10 := h2
      refine al_eq (fun h3 => ?_) (fun h3 => ?_)
      ·have h3 : (k : Int) = 11 := h3
       have hb : true = b := by rw [← hb]; exact (decide_eq_true (.inr (.inr (by omega)))).symm
       subst hb
       exact rfl
      ·have h3 : ¬ (k : Int) = 11 := h3
       have hb : false = b := by rw [← hb]; exact (decide_eq_false (by omega)).symm
       subst hb
       exact rfl
   cases b with
   | true =>
     rw [if_pos (of_decide_eq_true hb)] at hx
     obtain rfl := Option.some.inj hx
     refine lex2 3 (by kernel_rfl) ?_
     refine ⟨_,failR_ok s V false,?_⟩
     exact rfl
   | false =>
     rw [if_neg (of_decide_eq_false hb)] at hx
     unfold wordedR at hx
     refine ⟨_,hwr,?_⟩
     refine ⟨_,worded_ok k,fun q hq => ?_⟩
     subst hq
     rw [worded_textual]
     by_cases h1 : textualN k = true
     ·have hk : k = 3 ∨ k = 4 ∨ k = 5 ∨ k = 8 := by simpa [textualN] using h1
      have h2 : numericN k = false := by rcases hk with rfl | rfl | rfl | rfl <;> rfl
      have h3 : opersN k = 0 := by rcases hk with rfl | rfl | rfl | rfl <;> rfl
      rw [if_pos h1] at hx
      obtain rfl := Option.some.inj hx
      rw [h1]
      refine ⟨_,textR_ok s hs R hR,fun q hq => ?_⟩
      subst hq
      refine ⟨_,numbered_ok k,fun q hq => ?_⟩
      subst hq
      rw [numbered_numeric,h2]
      refine ⟨_,elements_ok k,fun q hq => ?_⟩
      subst hq
      rw [opsN_oper,h3]
      refine al_eq (fun h => absurd h (by decide)) (fun _ => ?_)
      refine ⟨.plan ⟨[1],[2,3],[],[1]⟩ (.one 0 (.one 1 (.alt 2 (.alt 3 .fin .stop) .stop))) none,by kernel_rfl,_,rfl,_,rfl,rfl,rfl,rfl,?_⟩
      exact rfl
     ·have h1' : textualN k = false := by simpa using h1
      rw [if_neg h1] at hx
      rw [h1']
      refine ⟨_,numbered_ok k,fun q hq => ?_⟩
      subst hq
      rw [numbered_numeric]
      by_cases h2 : numericN k = true
      ·have hk : k = 6 ∨ k = 7 := by simpa [numericN] using h2
       have h3 : opersN k = 0 := by rcases hk with rfl | rfl <;> rfl
       rw [if_pos h2] at hx
       obtain rfl := Option.some.inj hx
       rw [h2]
       refine ⟨_,numberR_ok s hs R hR,fun q hq => ?_⟩
       subst hq
       refine ⟨_,elements_ok k,fun q hq => ?_⟩
       subst hq
       rw [opsN_oper,h3]
       refine al_eq (fun h => absurd h (by decide)) (fun _ => ?_)
       refine ⟨.plan ⟨[1],[2,3],[],[1]⟩ (.one 0 (.one 1 (.alt 2 (.alt 3 .fin .stop) .stop))) none,by kernel_rfl,_,rfl,_,rfl,rfl,rfl,rfl,?_⟩
       exact rfl
      ·have h2' : numericN k = false := by simpa using h2
       rw [if_neg h2] at hx
       rw [h2']
       refine ⟨_,elements_ok k,fun q hq => ?_⟩
       subst hq
       rw [opsN_oper]
       by_cases h3 : opersN k = 1
       ·rw [if_pos h3] at hx
        rw [h3]
        refine al_eq (fun _ => ?_) (fun h => absurd rfl h)
        cases hr : goR f .unit R with
        | none => rw [hr] at hx; cases hx
        | some y =>
        obtain ⟨⟨k1,t1,n1,l1⟩,w,b⟩ := y
        rw [hr] at hx
        have hx : some (Qy.mk k [] 0 [.mk k1 t1 n1 l1],w,b) = some x := hx
        obtain rfl := Option.some.inj hx
        refine ⟨_,hU f (Nat.le_refl _) R _ hR hr,fun q hq => ?_⟩
        subst hq
        refine ⟨.plan ⟨[1],[2,3],[],[1]⟩ (.one 0 (.one 1 (.alt 2 (.alt 3 .fin .stop) .stop))) none,by kernel_rfl,_,rfl,_,rfl,rfl,rfl,rfl,?_⟩
        exact rfl
       ·rw [if_neg h3] at hx
        obtain rfl := Option.some.inj hx
        refine al_eq (fun h => absurd (show ((opersN k : Nat) : Int) = 1 from h) (by omega)) (fun _ => ?_)
        refine ⟨.plan ⟨[1],[2,3],[],[1]⟩ (.one 0 (.one 1 (.alt 2 (.alt 3 .fin .stop) .stop))) none,by kernel_rfl,_,rfl,_,rfl,rfl,rfl,rfl,?_⟩
        exact rfl
theorem readers_ok (s : Bytes) (hs : s.length ≤ 2 ^ 40) : ∀ f,UnitC s f ∧ ChainC s f
 | 0 => by
   refine ⟨fun f' hf u x _ hx => ?_,fun f' hf k u x _ _ hx => ?_⟩
   ·obtain rfl : f' = 0 := by omega
    cases hx
   ·obtain rfl : f' = 0 := by omega
    cases hx
 | f + 1 => by
   obtain ⟨hU,hC⟩ := readers_ok s hs f
   refine ⟨fun f' hf u x hu hx => ?_,fun f' hf k u x hk hu hx => ?_⟩
   ·rcases Nat.lt_or_ge f f' with h | h
    ·obtain rfl : f' = f + 1 := by omega
     exact unitR_ok hs hU hC u x hu hx
    ·exact hU f' h u x hu hx
   ·rcases Nat.lt_or_ge f f' with h | h
    ·obtain rfl : f' = f + 1 := by omega
     exact chainR_ok hs (linkR_ok hU hC) k u x hk hu hx
    ·exact hC f' h k u x hk hu hx
theorem parseRef_ok (s : Bytes) (hs : s.length ≤ 2 ^ 40) : CallsTo C 36 [.str s] (fun r => r = .val (parseQ s)) := by
 have out : ∀ x,parseQ s = x → (fun r => r = Ret.val (parseQ s)) (.val x) := fun x h => by rw [h]
 refine cTo' Tryz.func36 rfl rfl rfl ?_
 refine al_dec (fun h => ?_) (fun h => ?_)
 ·have h : (s.length : Int) > 65536 := h
  exact out _ (if_pos (by omega))
 ·have h : ¬ (s.length : Int) > 65536 := h
  obtain ⟨F,q,w,b,h1,h2⟩ := agree_all s
  have hc := (readers_ok s hs F).2 F (Nat.le_refl _) 11 s _ (.inr rfl) (Suf.refl s) h1
  have hw := goR_suf F _ _ _ (Suf.refl s) h1
  have hw : Suf s w := hw
  have hv := hw.unbl
  obtain ⟨k,t,n,l⟩ := q
  have hc : CallsTo C 63 [.agg (encR s s false),.int .i64 11] (fun q => q = .val (outR s (.mk k t n l,w,b))) := hc
  have e0 : encR s s false = [.str s,.int .i64 0,.bool false] := by
   unfold encR offR
   rw [Nat.sub_self]
   rfl
  rw [e0] at hc
  refine ⟨_,hc,fun q hq => ?_⟩
  subst hq
  refine al_not ?_
  have e1 : s.length ≤ 65536 := by omega
  rcases h2 with ⟨rfl,h3,h4⟩ | ⟨a,h4,h5⟩
  ·have hq := parse_sz (by omega) h4
   have hp : parseQ s = if checkQ globB (.mk k t n l) = 0 then parsed (.mk k t n l) 0 0 else parsed zeroQ 0 (checkQ globB (.mk k t n l)) := by
    unfold parseQ
    rw [if_neg (by omega),h4]
   rw [hp]
   refine ⟨_,blankR_ok s hs w false hw,fun q hq => ?_⟩
   subst hq
   rw [h3]
   have e : offR s [] = s.length := offR_nil s
   refine ⟨none,?_⟩
   refine al_dec (fun h => absurd (show (offR s [] : Int) < (s.length : Int) from h) (by omega)) (fun _ => ?_)
   refine ⟨_,checkR_ok (.mk k t n l) hq,fun r hr => ?_⟩
   subst hr
   refine al_ne (fun h => ?_) (fun h => ?_)
   ·have h : ¬ checkQ globB (.mk k t n l) = 0 := h
    rw [if_neg h]
    exact rfl
   ·have h : checkQ globB (.mk k t n l) = 0 := h
    rw [if_pos h]
    exact rfl
  ·have hp : parseQ s = parsed zeroQ (offT s a) 3 := by
    unfold parseQ
    rw [if_neg (by omega),h4]
   rw [hp]
   rcases h5 with ⟨rfl,rfl⟩ | ⟨rfl,h5,h6⟩
   ·refine ⟨none,?_⟩
    refine ⟨.plan ⟨[1,2],[3],[],[6]⟩ (.one 0 (.one 1 (.one 2 (.alt 3 (.one 4 (.one 5 .fin)) .stop)))) none,by kernel_rfl,_,rfl,_,rfl,rfl,_,rfl,rfl,rfl,_,rfl,_,rfl,?_⟩
    exact rfl
   ·refine ⟨_,blankR_ok s hs w false hw,fun q hq => ?_⟩
    subst hq
    rw [h5]
    rw [h5] at hv
    refine ⟨none,?_⟩
    cases ha : a.1 with
    | nil => exact absurd ha h6
    | cons c r =>
    rw [ha] at hv
    have hlt := offR_lt hv
    refine al_dec (fun _ => ?_) (fun h => absurd (show (offR s (c :: r) : Int) < (s.length : Int) by omega) h)
    refine ⟨.plan ⟨[1,2],[3],[],[6]⟩ (.one 0 (.one 1 (.one 2 (.alt 3 (.one 4 (.one 5 .fin)) .stop)))) none,by kernel_rfl,_,rfl,_,rfl,rfl,_,rfl,rfl,rfl,_,rfl,_,rfl,?_⟩
    have e2 : offT s a = offR s (c :: r) := by unfold offT offR; rw [ha]
    rw [e2]
    exact rfl
end Qv

end
