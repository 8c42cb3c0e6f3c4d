/- Several texts in one: The abstract values of the evaluator and how they are read off a memory: plain definitions and their first laws and what follows. No condition. -/
import Derived.Tactics
import Derived.Below
import Derived.Deep.Quiet
import Derived.RangeFuncNested
import Derived.RangeFuncCalls
import Derived.RangeFuncLeaves
import Derived.RangeFuncBound
import Derived.TacticsIn
import Derived.OrdersIn
import Derived.ChangeKeysEq
import Derived.Laws.StructEq
import Derived.MapKept
import Derived.Laws.IdiomCopy
import Derived.Laws.Entries
import Derived.Laws.Small
import Derived.Laws.BytesString
import Derived.Laws.MathBits
set_option linter.unusedVariables false
set_option linter.unusedSimpArgs false

section
namespace Qv
open Go
inductive AV where
 | bool (b : Bool)
 | int (k : IntKind) (n : Int)
 | str (s : List UInt8)
 | nilp
 | nilf
 | nili
 | nilm
 | iface (t : TypeId) (x : AV)
 | agg (xs : List AV)
 | tup (xs : List AV)
 | sl (xs : List (List AV))
 | imp (xs : List AV)
 | fn (f : Fn) (first captured : List AV)
 | mp (ks vs : List AV)
 deriving Inhabited
def AV.one : AV → Bool
 | .agg _ => false
 | .tup _ => false
 | _ => true
def AV.cells : AV → List AV
 | .agg xs => xs
 | x => [x]
structure MapFine (es : List MapEntry) (clk : Nat) : Prop where
 lt : ∀ e,e ∈ es → e.born < clk
 nd : (es.map (·.born)).Nodup
def Stands (imm : Nat → Nat → Prop) (w w' : World) : Prop := ∀ (b : Nat) (es : Array MapEntry) (k : Nat),imm b 0 → w.heap[b]? = some (.map es k) → w'.heap[b]? = some (.map es k)
theorem Stands.refl (imm : Nat → Nat → Prop) (w : World) : Stands imm w w := fun _ _ _ _ h => h
inductive Rep (imm : Nat → Nat → Prop) (w : World) : Value → AV → Prop
 | bool (b : Bool) : Rep imm w (.bool b) (.bool b)
 | int (k : IntKind) (n : Int) : Rep imm w (.int k n) (.int k n)
 | str (s : List UInt8) : Rep imm w (.string ⟨s.toArray⟩) (.str s)
 | nilp : Rep imm w (.pointer none) .nilp
 | nilf : Rep imm w .nilFunc .nilf
 | nili : Rep imm w .nilIface .nili
 | nilm : Rep imm w (.map none) .nilm
 | iface (t : TypeId) (v : Value) (x : AV) : Rep imm w v x → Rep imm w (.iface t v) (.iface t x)
 | agg (cs : List Value) (xs : List AV) : cs.length = xs.length → (∀ x,x ∈ xs → x.one = true) → (∀ (i : Nat) (c : Value) (x : AV),cs[i]? = some c → xs[i]? = some x → Rep imm w c x) → Rep imm w (.agg cs.toArray) (.agg xs)
 | tup (cs : List Value) (xs : List AV) : cs.length = xs.length → (∀ (i : Nat) (c : Value) (x : AV),cs[i]? = some c → xs[i]? = some x → Rep imm w c x) → Rep imm w (.tuple cs.toArray) (.tup xs)
 | sl0 (a : Option Addr) (c : Nat) : Rep imm w (.slice a 0 c) (.sl [])
 | sl (b off c esz : Nat) (xs : List (List AV)) (cell : Nat → Nat → Value) :
  (∀ (i : Nat) (ys : List AV),xs[i]? = some ys → ys.length = esz) →
  (∀ (i : Nat) (ys : List AV) (j : Nat) (y : AV),xs[i]? = some ys → ys[j]? = some y → y.one = true) →
  (∀ (i : Nat) (ys : List AV) (j : Nat) (y : AV),xs[i]? = some ys → ys[j]? = some y → w.cell? ⟨b,off + i * esz + j,none⟩ = some (cell i j)) →
  (∀ (i : Nat) (ys : List AV) (j : Nat) (y : AV),xs[i]? = some ys → ys[j]? = some y → imm b (off + i * esz + j)) →
  (∀ (i : Nat) (ys : List AV) (j : Nat) (y : AV),xs[i]? = some ys → ys[j]? = some y → Rep imm w (cell i j) y) →
  xs.length ≤ c →
  Rep imm w (.slice (some ⟨b,off,none⟩) xs.length c) (.sl xs)
 | imp (b off : Nat) (xs : List AV) (cell : Nat → Value) :
  (∀ (j : Nat) (y : AV),xs[j]? = some y → y.one = true) →
  (∀ (j : Nat) (y : AV),xs[j]? = some y → w.cell? ⟨b,off + j,none⟩ = some (cell j)) →
  (∀ (j : Nat) (y : AV),xs[j]? = some y → imm b (off + j)) →
  (∀ (j : Nat) (y : AV),xs[j]? = some y → Rep imm w (cell j) y) →
  Rep imm w (.pointer (some ⟨b,off,none⟩)) (.imp xs)
 | fn (f : Fn) (fs cs : List Value) (first captured : List AV) : fs.length = first.length → cs.length = captured.length →
  (∀ (i : Nat) (c : Value) (x : AV),fs[i]? = some c → first[i]? = some x → Rep imm w c x) →
  (∀ (i : Nat) (c : Value) (x : AV),cs[i]? = some c → captured[i]? = some x → Rep imm w c x) → Rep imm w (.func f fs.toArray cs.toArray) (.fn f first captured)
 | mp (b clk : Nat) (es : List MapEntry) (ks vs : List AV) : ks.length = es.length → vs.length = es.length → imm b 0 → w.heap[b]? = some (.map es.toArray clk) → MapFine es clk →
  (∀ (i : Nat) (e : MapEntry) (x : AV),es[i]? = some e → ks[i]? = some x → Rep imm w e.key x) →
  (∀ (i : Nat) (e : MapEntry) (x : AV),es[i]? = some e → vs[i]? = some x → Rep imm w e.val x) → Rep imm w (.map (some b)) (.mp ks vs)
theorem Rep.keep {imm imm' : Nat → Nat → Prop} {w w' : World} {v : Value} {x : AV} (h : Rep imm w v x)
 (hi : ∀ b o,imm b o → imm' b o) (hc : ∀ b o c,imm b o → w.cell? ⟨b,o,none⟩ = some c → w'.cell? ⟨b,o,none⟩ = some c) (hm : Stands imm w w') : Rep imm' w' v x := by
 induction h with
 | bool b => exact .bool b
 | int k n => exact .int k n
 | str s => exact .str s
 | nilp => exact .nilp
 | nilf => exact .nilf
 | nili => exact .nili
 | nilm => exact .nilm
 | iface t v x _ ih => exact .iface t v x ih
 | agg cs xs hl ho _ ih => exact .agg cs xs hl ho fun i c x h1 h2 => ih i c x h1 h2
 | tup cs xs hl _ ih => exact .tup cs xs hl fun i c x h1 h2 => ih i c x h1 h2
 | sl0 a c => exact .sl0 a c
 | sl b off c esz xs cell h1 h2 h3 h4 _ h6 ih =>
   exact .sl b off c esz xs cell h1 h2 (fun i ys j y a1 a2 => hc _ _ _ (h4 i ys j y a1 a2) (h3 i ys j y a1 a2)) (fun i ys j y a1 a2 => hi _ _ (h4 i ys j y a1 a2)) (fun i ys j y a1 a2 => ih i ys j y a1 a2) h6
 | imp b off xs cell h2 h3 h4 _ ih =>
   exact .imp b off xs cell h2 (fun j y a2 => hc _ _ _ (h4 j y a2) (h3 j y a2)) (fun j y a2 => hi _ _ (h4 j y a2)) (fun j y a2 => ih j y a2)
 | fn f fs cs first captured hl hl' _ _ ih ih' => exact .fn f fs cs first captured hl hl' (fun i c x h1 h2 => ih i c x h1 h2) (fun i c x h1 h2 => ih' i c x h1 h2)
 | mp b clk es ks vs h1 h2 h3 h4 h5 _ _ ih ih' => exact .mp b clk es ks vs h1 h2 (hi _ _ h3) (hm _ _ _ h3 h4) h5 (fun i c x a1 a2 => ih i c x a1 a2) (fun i c x a1 a2 => ih' i c x a1 a2)
theorem Rep.keep2 {imm imm' : Nat → Nat → Prop} {w w' : World} {v : Value} {x : AV} (h : Rep imm w v x)
 (hc : ∀ b o c,imm b o → w.cell? ⟨b,o,none⟩ = some c → imm' b o ∧ w'.cell? ⟨b,o,none⟩ = some c)
 (hm : ∀ (b : Nat) (es : Array MapEntry) (k : Nat),imm b 0 → w.heap[b]? = some (.map es k) → imm' b 0 ∧ w'.heap[b]? = some (.map es k)) : Rep imm' w' v x := by
 induction h with
 | bool b => exact .bool b
 | int k n => exact .int k n
 | str s => exact .str s
 | nilp => exact .nilp
 | nilf => exact .nilf
 | nili => exact .nili
 | nilm => exact .nilm
 | iface t v x _ ih => exact .iface t v x ih
 | agg cs xs hl ho _ ih => exact .agg cs xs hl ho fun i c x h1 h2 => ih i c x h1 h2
 | tup cs xs hl _ ih => exact .tup cs xs hl fun i c x h1 h2 => ih i c x h1 h2
 | sl0 a c => exact .sl0 a c
 | sl b off c esz xs cell h1 h2 h3 h4 _ h6 ih =>
   exact .sl b off c esz xs cell h1 h2 (fun i ys j y a1 a2 => (hc _ _ _ (h4 i ys j y a1 a2) (h3 i ys j y a1 a2)).2) (fun i ys j y a1 a2 => (hc _ _ _ (h4 i ys j y a1 a2) (h3 i ys j y a1 a2)).1) (fun i ys j y a1 a2 => ih i ys j y a1 a2) h6
 | imp b off xs cell h2 h3 h4 _ ih =>
   exact .imp b off xs cell h2 (fun j y a2 => (hc _ _ _ (h4 j y a2) (h3 j y a2)).2) (fun j y a2 => (hc _ _ _ (h4 j y a2) (h3 j y a2)).1) (fun j y a2 => ih j y a2)
 | fn f fs cs first captured hl hl' _ _ ih ih' => exact .fn f fs cs first captured hl hl' (fun i c x h1 h2 => ih i c x h1 h2) (fun i c x h1 h2 => ih' i c x h1 h2)
 | mp b clk es ks vs h1 h2 h3 h4 h5 _ _ ih ih' => exact .mp b clk es ks vs h1 h2 (hm _ _ _ h3 h4).1 (hm _ _ _ h3 h4).2 h5 (fun i c x a1 a2 => ih i c x a1 a2) (fun i c x a1 a2 => ih' i c x a1 a2)
inductive FV where
 | p (x : AV)
 | agg (xs : List FV)
 | tup (xs : List FV)
 | ptr (o off : Nat)
 | tip (t : Nat) (T : TypeId) (esz : Nat) (xs : List (List AV))
 | full (xs : List (List AV))
 | fn (f : Fn) (first captured : List FV)
 | yld (l : Nat)
 | osl (o : Nat) (T : TypeId) (esz : Nat)
 | eptr (o base off : Nat)
 | mapr (o : Nat)
 | itr (q : Nat)
 | junk
 deriving Inhabited
structure Ghost where
 imm : Nat → Nat → Prop
 loc : Nat → Option Nat
 tail : Nat → Option (Nat × Nat × Nat × TypeId)
 yl : Nat → Option Nat
 row : Nat → Option Nat
 mp : Nat → Option Nat
 it : Nat → Option Nat
inductive RepF (G : Ghost) (w : World) : Value → FV → Prop
 | p (v : Value) (x : AV) : Rep G.imm w v x → RepF G w v (.p x)
 | agg (cs : List Value) (xs : List FV) : cs.length = xs.length → (∀ (i : Nat) (c : Value) (x : FV),cs[i]? = some c → xs[i]? = some x → RepF G w c x) → RepF G w (.agg cs.toArray) (.agg xs)
 | tup (cs : List Value) (xs : List FV) : cs.length = xs.length → (∀ (i : Nat) (c : Value) (x : FV),cs[i]? = some c → xs[i]? = some x → RepF G w c x) → RepF G w (.tuple cs.toArray) (.tup xs)
 | ptr (o off b : Nat) : G.loc o = some b → RepF G w (.pointer (some ⟨b,off,none⟩)) (.ptr o off)
 | tip (t : Nat) (T : TypeId) (esz : Nat) (xs : List (List AV)) (a : Option Addr) (c : Nat) : Rep G.imm w (.slice a xs.length c) (.sl xs) →
  ((xs = [] ∧ c = 0) ∨ ∃ b off,a = some ⟨b,off,none⟩ ∧ (∀ ys,ys ∈ xs → ys.length = esz) ∧ G.tail t = some (b,off + xs.length * esz,off + c * esz,T)) →
  RepF G w (.slice a xs.length c) (.tip t T esz xs)
 | full (xs : List (List AV)) (a : Option Addr) : Rep G.imm w (.slice a xs.length xs.length) (.sl xs) → RepF G w (.slice a xs.length xs.length) (.full xs)
 | fn (f : Fn) (fs cs : List Value) (first captured : List FV) : fs.length = first.length → cs.length = captured.length →
  (∀ (i : Nat) (c : Value) (x : FV),fs[i]? = some c → first[i]? = some x → RepF G w c x) →
  (∀ (i : Nat) (c : Value) (x : FV),cs[i]? = some c → captured[i]? = some x → RepF G w c x) → RepF G w (.func f fs.toArray cs.toArray) (.fn f first captured)
 | yld (l k : Nat) : G.yl l = some k → RepF G w (.func (.yield k) #[] #[]) (.yld l)
 | osl (o : Nat) (T : TypeId) (esz n c b : Nat) : G.loc o = some b → G.tail o = some (b,n * esz,c * esz,T) → n ≤ c → 0 < esz → RepF G w (.slice (some ⟨b,0,none⟩) n c) (.osl o T esz)
 | eptr (o base off b : Nat) : G.loc o = some b → RepF G w (.pointer (some ⟨b,base + off,none⟩)) (.eptr o base off)
 | mapr (o b : Nat) : G.mp o = some b → RepF G w (.map (some b)) (.mapr o)
 | itr (q r : Nat) : G.it q = some r → RepF G w (.pointer (some ⟨r,0,none⟩)) (.itr q)
 | junk (v : Value) : RepF G w v .junk
theorem RepF.keep {G G' : Ghost} {w w' : World} {v : Value} {x : FV} (h : RepF G w v x)
 (hi : ∀ b o,G.imm b o → G'.imm b o) (hc : ∀ b o c,G.imm b o → w.cell? ⟨b,o,none⟩ = some c → w'.cell? ⟨b,o,none⟩ = some c) (hm : Stands G.imm w w')
 (hl : ∀ o b,G.loc o = some b → G'.loc o = some b) (ht : ∀ t r,G.tail t = some r → G'.tail t = some r)
 (hy : ∀ l k,G.yl l = some k → G'.yl l = some k := by intro _ _ h; exact h) (hmp : ∀ o b,G.mp o = some b → G'.mp o = some b := by intro _ _ h; exact h)
 (hit : ∀ o b,G.it o = some b → G'.it o = some b := by intro _ _ h; exact h) : RepF G' w' v x := by
 induction h with
 | p v x h => exact .p v x (h.keep hi hc hm)
 | agg cs xs hn _ ih => exact .agg cs xs hn fun i c x h1 h2 => ih i c x h1 h2
 | tup cs xs hn _ ih => exact .tup cs xs hn fun i c x h1 h2 => ih i c x h1 h2
 | ptr o off b h => exact .ptr o off b (hl _ _ h)
 | tip t T esz xs a c h1 h2 =>
   refine .tip t T esz xs a c (h1.keep hi hc hm) ?_
   rcases h2 with h2 | ⟨b,off,e1,e2,e3⟩
   ·exact .inl h2
   ·exact .inr ⟨b,off,e1,e2,ht _ _ e3⟩
 | full xs a h => exact .full xs a (h.keep hi hc hm)
 | fn f fs cs first captured hn hn' _ _ ih ih' => exact .fn f fs cs first captured hn hn' (fun i c x h1 h2 => ih i c x h1 h2) (fun i c x h1 h2 => ih' i c x h1 h2)
 | yld l k h => exact .yld l k (hy _ _ h)
 | osl o T esz n c b h1 h2 h3 h4 => exact .osl o T esz n c b (hl _ _ h1) (ht _ _ h2) h3 h4
 | eptr o base off b h => exact .eptr o base off b (hl _ _ h)
 | mapr o b h => exact .mapr o b (hmp _ _ h)
 | itr q r h => exact .itr q r (hit _ _ h)
 | junk v => exact .junk v
theorem RepF.keep2 {G G' : Ghost} {w w' : World} {v : Value} {x : FV} (h : RepF G w v x)
 (hc : ∀ b o c,G.imm b o → w.cell? ⟨b,o,none⟩ = some c → G'.imm b o ∧ w'.cell? ⟨b,o,none⟩ = some c)
 (hm : ∀ (b : Nat) (es : Array MapEntry) (k : Nat),G.imm b 0 → w.heap[b]? = some (.map es k) → G'.imm b 0 ∧ w'.heap[b]? = some (.map es k))
 (hl : ∀ o b,G.loc o = some b → G'.loc o = some b) (ht : ∀ t r,G.tail t = some r → G'.tail t = some r)
 (hy : ∀ l k,G.yl l = some k → G'.yl l = some k := by intro _ _ h; exact h) (hmp : ∀ o b,G.mp o = some b → G'.mp o = some b := by intro _ _ h; exact h)
 (hit : ∀ o b,G.it o = some b → G'.it o = some b := by intro _ _ h; exact h) : RepF G' w' v x := by
 induction h with
 | p v x h => exact .p v x (h.keep2 hc hm)
 | agg cs xs hn _ ih => exact .agg cs xs hn fun i c x h1 h2 => ih i c x h1 h2
 | tup cs xs hn _ ih => exact .tup cs xs hn fun i c x h1 h2 => ih i c x h1 h2
 | ptr o off b h => exact .ptr o off b (hl _ _ h)
 | tip t T esz xs a c h1 h2 =>
   refine .tip t T esz xs a c (h1.keep2 hc hm) ?_
   rcases h2 with h2 | ⟨b,off,e1,e2,e3⟩
   ·exact .inl h2
   ·exact .inr ⟨b,off,e1,e2,ht _ _ e3⟩
 | full xs a h => exact .full xs a (h.keep2 hc hm)
 | fn f fs cs first captured hn hn' _ _ ih ih' => exact .fn f fs cs first captured hn hn' (fun i c x h1 h2 => ih i c x h1 h2) (fun i c x h1 h2 => ih' i c x h1 h2)
 | yld l k h => exact .yld l k (hy _ _ h)
 | osl o T esz n c b h1 h2 h3 h4 => exact .osl o T esz n c b (hl _ _ h1) (ht _ _ h2) h3 h4
 | eptr o base off b h => exact .eptr o base off b (hl _ _ h)
 | mapr o b h => exact .mapr o b (hmp _ _ h)
 | itr q r h => exact .itr q r (hit _ _ h)
 | junk v => exact .junk v
mutual
def FV.kill (d : Nat) : FV → FV
 | .ptr o off => match Nat.beq o d with
   | true => .junk
   | false => .ptr o off
 | .tip t T e xs => match Nat.beq t d with
   | true => .p (.sl xs)
   | false => .tip t T e xs
 | .agg xs => .agg (FV.killL d xs)
 | .tup xs => .tup (FV.killL d xs)
 | .fn f first captured => .fn f (FV.killL d first) (FV.killL d captured)
 | .p x => .p x
 | .full xs => .full xs
 | .yld l => match Nat.beq l d with
   | true => .junk
   | false => .yld l
 | .osl o T e => match Nat.beq o d with
   | true => .junk
   | false => .osl o T e
 | .eptr o b off => match Nat.beq o d with
   | true => .junk
   | false => .eptr o b off
 | .mapr o => match Nat.beq o d with
   | true => .junk
   | false => .mapr o
 | .itr o => match Nat.beq o d with
   | true => .junk
   | false => .itr o
 | .junk => .junk
def FV.killL (d : Nat) : List FV → List FV
 | [] => []
 | x :: xs => FV.kill d x :: FV.killL d xs
end
theorem FV.killL_eq (d : Nat) (xs : List FV) : FV.killL d xs = xs.map (FV.kill d) := by
 induction xs with
 | nil => rfl
 | cons x xs ih => simp [FV.killL,ih]
theorem RepF.kill {G G' : Ghost} {w : World} {v : Value} {x : FV} (d : Nat) (h : RepF G w v x) (hi : G'.imm = G.imm)
 (hl : ∀ o b,o ≠ d → G.loc o = some b → G'.loc o = some b) (ht : ∀ t r,t ≠ d → G.tail t = some r → G'.tail t = some r)
 (hy : ∀ l k,l ≠ d → G.yl l = some k → G'.yl l = some k := by intro _ _ _ h; exact h) (hmp : ∀ o b,o ≠ d → G.mp o = some b → G'.mp o = some b := by intro _ _ _ h; exact h)
 (hit : ∀ o b,o ≠ d → G.it o = some b → G'.it o = some b := by intro _ _ _ h; exact h) : RepF G' w v (x.kill d) := by
 induction h with
 | p v x h => exact .p v x (hi ▸ h)
 | agg cs xs hn _ ih =>
   simp only [FV.kill,FV.killL_eq]
   refine .agg cs _ (by simpa using hn) fun i c x h1 h2 => ?_
   rw [List.getElem?_map] at h2
   cases hx : xs[i]? with
   | none => simp [hx] at h2
   | some y => simp [hx] at h2; subst h2; exact ih i c y h1 hx
 | tup cs xs hn _ ih =>
   simp only [FV.kill,FV.killL_eq]
   refine .tup cs _ (by simpa using hn) fun i c x h1 h2 => ?_
   rw [List.getElem?_map] at h2
   cases hx : xs[i]? with
   | none => simp [hx] at h2
   | some y => simp [hx] at h2; subst h2; exact ih i c y h1 hx
 | ptr o off b h =>
   simp only [FV.kill]
   split
   ·exact .junk _
   ·rename_i hb
    exact .ptr o off b (hl o b (Nat.ne_of_beq_eq_false hb) h)
 | tip t T esz xs a c h1 h2 =>
   simp only [FV.kill]
   split
   ·exact .p _ _ (hi ▸ h1)
   ·rename_i hb
    refine .tip t T esz xs a c (hi ▸ h1) ?_
    rcases h2 with h2 | ⟨b,off,e1,e2,e3⟩
    ·exact .inl h2
    ·exact .inr ⟨b,off,e1,e2,ht _ _ (Nat.ne_of_beq_eq_false hb) e3⟩
 | full xs a h => exact .full xs a (hi ▸ h)
 | fn f fs cs first captured hn hn' _ _ ih ih' =>
   simp only [FV.kill,FV.killL_eq]
   refine .fn f fs cs _ _ (by simpa using hn) (by simpa using hn') (fun i c x h1 h2 => ?_) (fun i c x h1 h2 => ?_)
   ·rw [List.getElem?_map] at h2
    cases hx : first[i]? with
    | none => simp [hx] at h2
    | some y => simp [hx] at h2; subst h2; exact ih i c y h1 hx
   ·rw [List.getElem?_map] at h2
    cases hx : captured[i]? with
    | none => simp [hx] at h2
    | some y => simp [hx] at h2; subst h2; exact ih' i c y h1 hx
 | yld l k h =>
   simp only [FV.kill]
   split
   ·exact .junk _
   ·rename_i hb
    exact .yld l k (hy l k (Nat.ne_of_beq_eq_false hb) h)
 | osl o T esz n c b h1 h2 h3 h4 =>
   simp only [FV.kill]
   split
   ·exact .junk _
   ·rename_i hb
    have hne := Nat.ne_of_beq_eq_false hb
    exact .osl o T esz n c b (hl o b hne h1) (ht o _ hne h2) h3 h4
 | eptr o base off b h =>
   simp only [FV.kill]
   split
   ·exact .junk _
   ·rename_i hb
    exact .eptr o base off b (hl o b (Nat.ne_of_beq_eq_false hb) h)
 | mapr o b h =>
   simp only [FV.kill]
   split
   ·exact .junk _
   ·rename_i hb
    exact .mapr o b (hmp o b (Nat.ne_of_beq_eq_false hb) h)
 | itr o b h =>
   simp only [FV.kill]
   split
   ·exact .junk _
   ·rename_i hb
    exact .itr o b (hit o b (Nat.ne_of_beq_eq_false hb) h)
 | junk v => exact .junk v
mutual
def FV.toAV : FV → Option AV
 | .p x => some x
 | .tip _ _ _ xs => some (.sl xs)
 | .full xs => some (.sl xs)
 | .agg xs => match FV.toAVs xs with
   | some ys => match ys.all AV.one with
     | true => some (.agg ys)
     | false => none
   | none => none
 | .tup xs => match FV.toAVs xs with
   | some ys => some (.tup ys)
   | none => none
 | .fn f first captured => match FV.toAVs first with
   | some a => match FV.toAVs captured with
     | some b => some (.fn f a b)
     | none => none
   | none => none
 | .ptr _ _ => none
 | .yld _ => none
 | .osl _ _ _ => none
 | .eptr _ _ _ => none
 | .mapr _ => none
 | .itr _ => none
 | .junk => none
def FV.toAVs : List FV → Option (List AV)
 | [] => some []
 | x :: xs => match FV.toAV x with
   | some y => match FV.toAVs xs with
     | some ys => some (y :: ys)
     | none => none
   | none => none
end
theorem FV.toAVs_get {xs : List FV} {ys : List AV} (h : FV.toAVs xs = some ys) : ys.length = xs.length ∧ ∀ (i : Nat) (y : AV),ys[i]? = some y → ∃ x,xs[i]? = some x ∧ x.toAV = some y := by
 induction xs generalizing ys with
 | nil => simp [FV.toAVs] at h; subst h; simp
 | cons x xs ih =>
   simp only [FV.toAVs] at h
   split at h
   ·rename_i y hy
    split at h
    ·rename_i zs hz
     obtain rfl := Option.some.inj h
     obtain ⟨h1,h2⟩ := ih hz
     refine ⟨by simp [h1],fun i z hi => ?_⟩
     cases i with
     | zero => simp at hi; subst hi; exact ⟨x,rfl,hy⟩
     | succ i => simp at hi; simpa using h2 i z hi
    ·cases h
   ·cases h
theorem RepF.toAV {G : Ghost} {w : World} {v : Value} {x : FV} (h : RepF G w v x) : ∀ {y : AV},x.toAV = some y → Rep G.imm w v y := by
 induction h with
 | p v x h => intro y hy; simp only [FV.toAV,Option.some.injEq] at hy; exact hy ▸ h
 | agg cs xs hn _ ih =>
   intro y hy
   simp only [FV.toAV] at hy
   split at hy
   ·rename_i ys hys
    split at hy
    ·rename_i hall
     obtain rfl := Option.some.inj hy
     obtain ⟨h1,h2⟩ := FV.toAVs_get hys
     refine .agg cs ys (by omega) (fun x hx => List.all_eq_true.1 hall x hx) fun i c x hc hx => ?_
     obtain ⟨z,hz,hzx⟩ := h2 i x hx
     exact ih i c z hc hz hzx
    ·cases hy
   ·cases hy
 | tup cs xs hn _ ih =>
   intro y hy
   simp only [FV.toAV] at hy
   split at hy
   ·rename_i ys hys
    obtain rfl := Option.some.inj hy
    obtain ⟨h1,h2⟩ := FV.toAVs_get hys
    refine .tup cs ys (by omega) fun i c x hc hx => ?_
    obtain ⟨z,hz,hzx⟩ := h2 i x hx
    exact ih i c z hc hz hzx
   ·cases hy
 | ptr o off b h => intro y hy; simp [FV.toAV] at hy
 | tip t T esz xs a c h1 h2 => intro y hy; simp only [FV.toAV,Option.some.injEq] at hy; exact hy ▸ h1
 | full xs a h => intro y hy; simp only [FV.toAV,Option.some.injEq] at hy; exact hy ▸ h
 | fn f fs cs first captured hn hn' _ _ ih ih' =>
   intro y hy
   simp only [FV.toAV] at hy
   split at hy
   ·rename_i ys hys
    split at hy
    ·rename_i zs hzs
     obtain rfl := Option.some.inj hy
     obtain ⟨h1,h2⟩ := FV.toAVs_get hys
     obtain ⟨h3,h4⟩ := FV.toAVs_get hzs
     refine .fn f fs cs ys zs (by omega) (by omega) (fun i c x hc hx => ?_) (fun i c x hc hx => ?_)
     ·obtain ⟨z,hz,hzx⟩ := h2 i x hx
      exact ih i c z hc hz hzx
     ·obtain ⟨z,hz,hzx⟩ := h4 i x hx
      exact ih' i c z hc hz hzx
    ·cases hy
   ·cases hy
 | yld l k h => intro y hy; simp [FV.toAV] at hy
 | osl o T esz n c b h1 h2 h3 h4 => intro y hy; simp [FV.toAV] at hy
 | eptr o base off b h => intro y hy; simp [FV.toAV] at hy
 | mapr o b h => intro y hy; simp [FV.toAV] at hy
 | itr o b h => intro y hy; simp [FV.toAV] at hy
 | junk v => intro y hy; simp [FV.toAV] at hy
mutual
def FV.fz (d : Nat) (ys : List AV) : FV → FV
 | .ptr o off => match Nat.beq o d with
   | true => .p (.imp (ys.drop off))
   | false => .ptr o off
 | .tip t T e xs => .tip t T e xs
 | .agg xs => .agg (FV.fzL d ys xs)
 | .tup xs => .tup (FV.fzL d ys xs)
 | .fn f first captured => .fn f (FV.fzL d ys first) (FV.fzL d ys captured)
 | .p x => .p x
 | .full xs => .full xs
 | .yld l => .yld l
 | .osl o T e => match Nat.beq o d with
   | true => .junk
   | false => .osl o T e
 | .eptr o b off => match Nat.beq o d with
   | true => .junk
   | false => .eptr o b off
 | .mapr o => .mapr o
 | .itr o => .itr o
 | .junk => .junk
def FV.fzL (d : Nat) (ys : List AV) : List FV → List FV
 | [] => []
 | x :: xs => FV.fz d ys x :: FV.fzL d ys xs
end
theorem FV.fzL_eq (d : Nat) (ys : List AV) (xs : List FV) : FV.fzL d ys xs = xs.map (FV.fz d ys) := by
 induction xs with
 | nil => rfl
 | cons x xs ih => simp [FV.fzL,ih]
theorem fz_get {R : Value → FV → Prop} {d : Nat} {ys : List AV} {cs : List Value} {xs : List FV} (ih : ∀ (i : Nat) (c : Value) (x : FV),cs[i]? = some c → xs[i]? = some x → R c (x.fz d ys)) :
 ∀ (i : Nat) (c : Value) (x : FV),cs[i]? = some c → (FV.fzL d ys xs)[i]? = some x → R c x := fun i c x h1 h2 => by
 rw [FV.fzL_eq,List.getElem?_map] at h2
 cases hx : xs[i]? with
 | none => simp [hx] at h2
 | some y => simp [hx] at h2; subst h2; exact ih i c y h1 hx
theorem RepF.fz {G G' : Ghost} {w : World} {v : Value} {x : FV} {d B : Nat} {ys : List AV} (h : RepF G w v x) (hi : ∀ b o,G.imm b o → G'.imm b o)
 (hB : ∀ b,G.loc d = some b → b = B) (hc : ∀ (j : Nat) (y : AV),ys[j]? = some y → y.one = true ∧ G'.imm B j ∧ ∃ c,w.cell? ⟨B,j,none⟩ = some c ∧ Rep G'.imm w c y)
 (hl : ∀ o b,o ≠ d → G.loc o = some b → G'.loc o = some b) (ht : ∀ t r,G.tail t = some r → G'.tail t = some r)
 (hy : ∀ l k,G.yl l = some k → G'.yl l = some k := by intro _ _ h; exact h) (hmp : ∀ o b,G.mp o = some b → G'.mp o = some b := by intro _ _ h; exact h)
 (hit : ∀ o b,G.it o = some b → G'.it o = some b := by intro _ _ h; exact h) : RepF G' w v (x.fz d ys) := by
 induction h with
 | p v x h => exact .p v x (h.keep hi (fun _ _ _ _ h => h) (.refl _ _))
 | agg cs xs hn _ ih => exact .agg cs _ (by simpa [FV.fzL_eq] using hn) (fz_get ih)
 | tup cs xs hn _ ih => exact .tup cs _ (by simpa [FV.fzL_eq] using hn) (fz_get ih)
 | ptr o off b h =>
   simp only [FV.fz]
   split
   ·rename_i hb
    obtain rfl := Nat.eq_of_beq_eq_true hb
    obtain rfl := hB b h
    refine .p _ _ (.imp b off _ (fun j => (w.cell? ⟨b,off + j,none⟩).getD undef) ?_ ?_ ?_ ?_)
    all_goals
     intro j y hj
     rw [List.getElem?_drop] at hj
     obtain ⟨h1,h2,c,h3,h4⟩ := hc _ _ hj
    ·exact h1
    ·rw [h3]; rfl
    ·exact h2
    ·rw [h3]; exact h4
   ·rename_i hb
    exact .ptr o off b (hl o b (Nat.ne_of_beq_eq_false hb) h)
 | tip t T esz xs a c h1 h2 =>
   refine .tip t T esz xs a c (h1.keep hi (fun _ _ _ _ h => h) (.refl _ _)) ?_
   rcases h2 with h2 | ⟨b,off,e1,e2,e3⟩
   ·exact .inl h2
   ·exact .inr ⟨b,off,e1,e2,ht _ _ e3⟩
 | full xs a h => exact .full xs a (h.keep hi (fun _ _ _ _ h => h) (.refl _ _))
 | fn f fs cs first captured hn hn' _ _ ih ih' => exact .fn f fs cs _ _ (by simpa [FV.fzL_eq] using hn) (by simpa [FV.fzL_eq] using hn') (fz_get ih) (fz_get ih')
 | yld l k h => exact .yld l k (hy _ _ h)
 | osl o T esz n c b h1 h2 h3 h4 =>
   simp only [FV.fz]
   split
   ·exact .junk _
   ·rename_i hb
    have hne := Nat.ne_of_beq_eq_false hb
    exact .osl o T esz n c b (hl o b hne h1) (ht o _ h2) h3 h4
 | eptr o base off b h =>
   simp only [FV.fz]
   split
   ·exact .junk _
   ·rename_i hb
    exact .eptr o base off b (hl o b (Nat.ne_of_beq_eq_false hb) h)
 | mapr o b h => exact .mapr o b (hmp _ _ h)
 | itr o b h => exact .itr o b (hit _ _ h)
 | junk v => exact .junk v
mutual
def FV.fm (d : Nat) (x : AV) : FV → FV
 | .mapr o => match Nat.beq o d with
   | true => .p x
   | false => .mapr o
 | .ptr o off => .ptr o off
 | .tip t T e xs => .tip t T e xs
 | .agg xs => .agg (FV.fmL d x xs)
 | .tup xs => .tup (FV.fmL d x xs)
 | .fn f first captured => .fn f (FV.fmL d x first) (FV.fmL d x captured)
 | .p y => .p y
 | .full xs => .full xs
 | .yld l => .yld l
 | .osl o T e => .osl o T e
 | .eptr o b off => .eptr o b off
 | .itr o => .itr o
 | .junk => .junk
def FV.fmL (d : Nat) (x : AV) : List FV → List FV
 | [] => []
 | y :: ys => FV.fm d x y :: FV.fmL d x ys
end
theorem FV.fmL_eq (d : Nat) (y : AV) (xs : List FV) : FV.fmL d y xs = xs.map (FV.fm d y) := by
 induction xs with
 | nil => rfl
 | cons x xs ih => simp [FV.fmL,ih]
theorem fm_get {R : Value → FV → Prop} {d : Nat} {z : AV} {cs : List Value} {xs : List FV} (ih : ∀ (i : Nat) (c : Value) (x : FV),cs[i]? = some c → xs[i]? = some x → R c (x.fm d z)) :
 ∀ (i : Nat) (c : Value) (x : FV),cs[i]? = some c → (FV.fmL d z xs)[i]? = some x → R c x := fun i c x h1 h2 => by
 rw [FV.fmL_eq,List.getElem?_map] at h2
 cases hx : xs[i]? with
 | none => simp [hx] at h2
 | some y => simp [hx] at h2; subst h2; exact ih i c y h1 hx
theorem RepF.fm {G G' : Ghost} {w : World} {v : Value} {x : FV} {d : Nat} {z : AV} (h : RepF G w v x) (hi : ∀ b o,G.imm b o → G'.imm b o)
 (hz : ∀ b,G.mp d = some b → Rep G'.imm w (.map (some b)) z)
 (hl : ∀ o b,G.loc o = some b → G'.loc o = some b) (ht : ∀ t r,G.tail t = some r → G'.tail t = some r)
 (hy : ∀ l k,G.yl l = some k → G'.yl l = some k) (hmp : ∀ o b,o ≠ d → G.mp o = some b → G'.mp o = some b)
 (hit : ∀ o b,G.it o = some b → G'.it o = some b) : RepF G' w v (x.fm d z) := by
 induction h with
 | p v x h => exact .p v x (h.keep hi (fun _ _ _ _ h => h) (.refl _ _))
 | agg cs xs hn _ ih => exact .agg cs _ (by simpa [FV.fmL_eq] using hn) (fm_get ih)
 | tup cs xs hn _ ih => exact .tup cs _ (by simpa [FV.fmL_eq] using hn) (fm_get ih)
 | ptr o off b h => exact .ptr o off b (hl _ _ h)
 | tip t T esz xs a c h1 h2 =>
   refine .tip t T esz xs a c (h1.keep hi (fun _ _ _ _ h => h) (.refl _ _)) ?_
   rcases h2 with h2 | ⟨b,off,e1,e2,e3⟩
   ·exact .inl h2
   ·exact .inr ⟨b,off,e1,e2,ht _ _ e3⟩
 | full xs a h => exact .full xs a (h.keep hi (fun _ _ _ _ h => h) (.refl _ _))
 | fn f fs cs first captured hn hn' _ _ ih ih' => exact .fn f fs cs _ _ (by simpa [FV.fmL_eq] using hn) (by simpa [FV.fmL_eq] using hn') (fm_get ih) (fm_get ih')
 | yld l k h => exact .yld l k (hy _ _ h)
 | osl o T esz n c b h1 h2 h3 h4 => exact .osl o T esz n c b (hl _ _ h1) (ht _ _ h2) h3 h4
 | eptr o base off b h => exact .eptr o base off b (hl _ _ h)
 | mapr o b h =>
   simp only [FV.fm]
   split
   ·rename_i hb
    obtain rfl := Nat.eq_of_beq_eq_true hb
    exact .p _ _ (hz b h)
   ·rename_i hb
    exact .mapr o b (hmp o b (Nat.ne_of_beq_eq_false hb) h)
 | itr o b h => exact .itr o b (hit _ _ h)
 | junk v => exact .junk v
end Qv

end

section
namespace Qv
open Go
def globCells : Nat → Option (List AV)
 | 0 => some [.str [],.str [97,108,108],.str [110,111,110,101],.str [97,117,116,104,111,114],.str [109,101,115,115,97,103,101],.str [112,97,116,104],.str [98,101,102,111,114,101],.str [97,102,116,101,114],.str [105,100],.str [110,111,116],.str [97,110,100],.str [111,114],.str [110,101,101,100,115],.str [117,115,101,114,115]]
 | _ => none
def GlobOK (imm : Nat → Nat → Prop) (w : World) : Prop := ∀ (g : Nat) (xs : List AV),globCells g = some xs → Rep imm w (.pointer (some ⟨g,0,none⟩)) (.imp xs)
end Qv

end

section
namespace Qv
universe u
open Go
inductive Shape where
 | int (k : IntKind)
 | bool
 | str
 | slice (e : TypeId)
 | struct (fs : List (Nat × TypeId))
 | array (n : Nat) (e : TypeId)
 | map (k e : TypeId)
 | ptr (e : TypeId)
 | iface
 | func
 | other
 deriving Inhabited
def Shape.isAgg : Shape → Bool
 | .struct _ => true
 | .array _ _ => true
 | _ => false
structure TInfo where
 size : Nat
 bytes : Nat
 shape : Shape
 zero : List Value
 deriving Inhabited
def shapeOf : TypeDesc → Shape
 | .bool => .bool
 | .int k => .int k
 | .string => .str
 | .pointer e => .ptr e
 | .slice e => .slice e
 | .array n e => .array n e
 | .map k e => .map k e
 | .struct fs => .struct (fs.toList.map fun f => (f.offset,f.type))
 | .func _ _ _ => .func
 | .interface _ => .iface
 | _ => .other
structure TabOK (P : Program) (t : TypeId) (i : TInfo) : Prop where
 info : (P.info? t).map (fun inf => (inf.size,inf.bytes,inf.zero.map fun v => v.cells.toList)) = some (i.size,i.bytes,some i.zero)
 und : (P.underlying t).map shapeOf = some i.shape
 len : i.zero.length = i.size
structure Extra where
 opens : List Nat
 frz : List Nat
 full : Bool
 inl : List FuncId := []
 frm : List Nat := []
 ren : List Nat := []
structure Ctx where
 P : Program
 tab : List (TypeId × TInfo)
 tabOK : ∀ t i,(t,i) ∈ tab → TabOK P t i
 J : World → Prop
 nglob : Nat
 mixed : P.follows .mixedOrders = true
 bT : TypeId
 bE : TypeId
 stable : ∀ w w' : World,(∀ k,k < nglob → w'.heap[k]? = w.heap[k]?) → J w → J w'
 cuts : List Nat
 ex : Extra
 pan : Value → Prop := fun _ => False
 plen : Nat := 0
 pfn : List FuncId := []
def Ctx.cut (C : Ctx) (l : List Nat) : Ctx := { C with cuts := l }
def Ctx.open (C : Ctx) (e : Extra) : Ctx := { C with ex := e }
def Ctx.pans (C : Ctx) (p : Value → Prop) (n : Nat) (l : List FuncId) : Ctx := { C with pan := p,plen := n,pfn := l }
def tabGet : List (TypeId × TInfo) → TypeId → Option TInfo
 | [],_ => none
 | (u,i) :: r,t => match Nat.beq u t with
   | true => some i
   | false => tabGet r t
inductive Ret where
 | val (x : AV)
 | fresh (T : TypeId) (esz : Nat) (xs : List (List AV))
 | vf (x : FV)
def bare (imm : Nat → Nat → Prop) : Ghost := ⟨imm,fun _ => none,fun _ => none,fun _ => none,fun _ => none,fun _ => none,fun _ => none⟩
def immOr (imm : Nat → Nat → Prop) (B : Nat) : Nat → Nat → Prop := fun b o => imm b o ∨ B ≤ b
def RetOK (imm : Nat → Nat → Prop) (B : Nat) (w' : World) (v : Value) : Ret → Prop
 | .val x => Rep (immOr imm B) w' v x
 | .fresh T esz xs => ∃ a c,v = .slice a xs.length c ∧
  ((xs = [] ∧ c = 0 ∧ Rep (immOr imm B) w' v (.sl xs)) ∨
   ∃ b off cs fr,a = some ⟨b,off,none⟩ ∧ B ≤ b ∧ b < w'.heap.size ∧ (∀ ys,ys ∈ xs → ys.length = esz) ∧ w'.heap[b]? = some (.cells cs T fr) ∧
     (∀ i,off + xs.length * esz ≤ i → i < off + c * esz → (∃ u,w'.cell? ⟨b,i,none⟩ = some u) ∧ w'.frozen? ⟨b,i,none⟩ = false) ∧
     Rep (fun b' o => imm b' o ∨ (B ≤ b' ∧ ¬ (b' = b ∧ off + xs.length * esz ≤ o ∧ o < off + c * esz))) w' v (.sl xs))
 | .vf x => RepF (bare (immOr imm B)) w' v x
def CallsTo (C : Ctx) (f : FuncId) (args : List AV) (R : Ret → Prop) : Prop :=
 (∃ fn, C.P.funcs[f]? = some fn ∧ fn.body.isNone = false ∧ (fn.name == "runtime.NumGoroutine") = false) ∧
 ∀ (imm : Nat → Nat → Prop) (w : World) (vs : List Value),C.J w ∧ GlobOK imm w → C.nglob ≤ w.heap.size → (∀ b o,imm b o → b < w.heap.size) →
   vs.length = args.length → (∀ (i : Nat) (v : Value) (x : AV),vs[i]? = some v → args[i]? = some x → Rep imm w v x) →
   Calls C.P f vs.toArray w fun e w' => ∃ v r,e = .returned v ∧ R r ∧ RetOK imm w.heap.size w' v r ∧ RowKit.Below w.heap.size w w'
def ObjTo (C : Ctx) (f : FuncId) (cells args : List AV) (R : AV → List AV → Prop) : Prop :=
 (∃ fn, C.P.funcs[f]? = some fn ∧ fn.body.isNone = false ∧ (fn.name == "runtime.NumGoroutine") = false) ∧
 ∀ (imm : Nat → Nat → Prop) (w : World) (b : Nat) (vs : List Value),C.J w ∧ GlobOK imm w → C.nglob ≤ w.heap.size → (∀ b o,imm b o → b < w.heap.size) →
   C.nglob ≤ b → b < w.heap.size → (∀ i,¬ imm b i ∧ w.frozen? ⟨b,i,none⟩ = false) → (∀ (i : Nat) (x : AV),cells[i]? = some x → ∃ c,w.cell? ⟨b,i,none⟩ = some c ∧ Rep imm w c x) →
   vs.length = args.length → (∀ (i : Nat) (v : Value) (x : AV),vs[i]? = some v → args[i]? = some x → Rep imm w v x) →
   Calls C.P f (.pointer (some ⟨b,0,none⟩) :: vs).toArray w fun e w' => ∃ v r cells',e = .returned v ∧ R r cells' ∧ cells'.length = cells.length ∧ Rep (immOr imm w.heap.size) w' v r ∧
    (∀ (i : Nat) (x : AV),cells'[i]? = some x → ∃ c,w'.cell? ⟨b,i,none⟩ = some c ∧ Rep (immOr imm w.heap.size) w' c x) ∧
    w'.os = w.os ∧ w'.tape = w.tape ∧ w'.output = w.output ∧ w.heap.size ≤ w'.heap.size ∧ (∀ k,k < w.heap.size → k ≠ b → w'.heap[k]? = w.heap[k]?) ∧
    (∀ cs T fr,w.heap[b]? = some (.cells cs T fr) → ∃ cs',w'.heap[b]? = some (.cells cs' T fr) ∧ cs'.size = cs.size)
structure Fr where
 n : Nat
 off : Nat
 tmps : Nat → FV
inductive PSt where
 | ready
 | busy
 | doneRet
 | doneExit (id : Nat)
def BldAt (C : Ctx) (w : World) (b : Nat) (row : Option Nat) (bs : List UInt8) : Prop :=
 ∃ (p : Option Addr) (v : Value),(p = none ∨ p = some ⟨b,0,none⟩) ∧ w.heap[b]? = some (.cells #[.pointer p,v] C.bT (0,0)) ∧
   match row with
   | none => v = .slice none 0 0 ∧ bs = []
   | some r => b ≠ r ∧ ∃ (cap : Nat) (cur : Array Value),v = .slice (some ⟨r,0,none⟩) bs.length cap ∧ w.heap[r]? = some (.cells cur C.bE (0,0)) ∧ bs.length ≤ cap ∧ cap ≤ 9223372036854775807 ∧ cur.size = cap ∧
    cur.toList.take bs.length = bs.map fun c => Value.int .u8 (c.toNat : Int)
def BldTo (C : Ctx) (f : FuncId) (args : List AV) (bs : List UInt8) (out : Option (List UInt8)) (r : AV) : Prop :=
 (∃ fn, C.P.funcs[f]? = some fn ∧ fn.body.isNone = false ∧ (fn.name == "runtime.NumGoroutine") = false) ∧
 ∀ (w : World) (b : Nat) (row : Option Nat) (vs : List Value),C.J w → BldAt C w b row bs → vs.length = args.length →
   (∀ (i : Nat) (v : Value) (x : AV),vs[i]? = some v → args[i]? = some x → Rep (fun _ _ => False) w v x) →
   Calls C.P f (.pointer (some ⟨b,0,none⟩) :: vs).toArray w fun e w' => ∃ v,e = .returned v ∧ Rep (fun _ _ => False) w' v r ∧
    (match out with
     | some bs' => ∃ row',BldAt C w' b row' bs' ∧ (row' = row ∨ ∃ x,row' = some x ∧ w.heap.size ≤ x)
     | none => ∃ p v,w'.heap[b]? = some (.cells #[p,v] C.bT (0,0))) ∧
    w'.os = w.os ∧ w'.tape = w.tape ∧ w'.output = w.output ∧ w.heap.size ≤ w'.heap.size ∧ ∀ k,k < w.heap.size → k ≠ b → row ≠ some k → w'.heap[k]? = w.heap[k]?
structure ASt where
 n : Nat
 off : Nat
 tmps : Nat → FV
 objs : List (Nat × List FV)
 susp : List Fr
 pend : List PSt
 blds : List (Nat × List UInt8)
 maps : List (Nat × List (AV × FV)) := []
 its : List (Nat × (Option (AV × AV) × List (AV × AV))) := []
def ASt.wMaps (S : ASt) (m : List (Nat × List (AV × FV))) : ASt := { S with maps := m }
def ltB (i n : Nat) : Bool := match n with
 | 0 => false
 | m + 1 => Nat.ble i m
@[simp] theorem ltB_iff (i n : Nat) : (ltB i n = true) = (i < n) := by
 cases n with
 | zero => simp [ltB]
 | succ m => simp [ltB,Nat.lt_succ_iff]
def ASt.get (S : ASt) (i : Nat) : FV := match ltB i S.n with
 | true => S.tmps i
 | false => .junk
def ASt.put (S : ASt) (dst : Option Nat) (v : FV) : ASt := match dst with
 | none => S
 | some d => { S with tmps := fun i => match Nat.beq i d with
   | true => v
   | false => S.tmps i }
def getObj : List (Nat × List FV) → Nat → Option (List FV)
 | [],_ => none
 | (u,i) :: r,t => match Nat.beq u t with
   | true => some i
   | false => getObj r t
def getO (l : List (Nat × List FV)) (d : Nat) : Option (List FV) := match Nat.beq d 999999 with
 | true => none
 | false => getObj l d
def setObj : List (Nat × List FV) → Nat → List FV → List (Nat × List FV)
 | [],_,_ => []
 | (u,i) :: r,t,c => match Nat.beq u t with
   | true => (u,c) :: r
   | false => (u,i) :: setObj r t c
def delObj (d : Nat) : List (Nat × List FV) → List (Nat × List FV)
 | [] => []
 | (u,i) :: r => match Nat.beq u d with
   | true => delObj d r
   | false => (u,FV.killL d i) :: delObj d r
def getB : List (Nat × List UInt8) → Nat → Option (List UInt8)
 | [],_ => none
 | (u,i) :: r,t => match Nat.beq u t with
   | true => some i
   | false => getB r t
def setB : List (Nat × List UInt8) → Nat → List UInt8 → List (Nat × List UInt8)
 | [],_,_ => []
 | (u,i) :: r,t,c => match Nat.beq u t with
   | true => (u,c) :: r
   | false => (u,i) :: setB r t c
def delB (d : Nat) : List (Nat × List UInt8) → List (Nat × List UInt8)
 | [] => []
 | (u,i) :: r => match Nat.beq u d with
   | true => delB d r
   | false => (u,i) :: delB d r
def mapV (f : FV → FV) : List (AV × FV) → List (AV × FV)
 | [] => []
 | (k,x) :: r => (k,f x) :: mapV f r
theorem mapV_eq (f : FV → FV) (l : List (AV × FV)) : mapV f l = l.map fun p => (p.1,f p.2) := by
 induction l with
 | nil => rfl
 | cons p l ih => obtain ⟨k,x⟩ := p; simp [mapV,ih]
def mapMs (f : FV → FV) : List (Nat × List (AV × FV)) → List (Nat × List (AV × FV))
 | [] => []
 | (u,l) :: r => (u,mapV f l) :: mapMs f r
def getM {α : Type} : List (Nat × α) → Nat → Option α
 | [],_ => none
 | (u,i) :: r,t => match Nat.beq u t with
   | true => some i
   | false => getM r t
def setM {α : Type} : List (Nat × α) → Nat → α → List (Nat × α)
 | [],_,_ => []
 | (u,i) :: r,t,c => match Nat.beq u t with
   | true => (u,c) :: r
   | false => (u,i) :: setM r t c
def delM {α : Type} (d : Nat) : List (Nat × α) → List (Nat × α)
 | [] => []
 | (u,i) :: r => match Nat.beq u d with
   | true => delM d r
   | false => (u,i) :: delM d r
def Fr.map (f : FV → FV) (r : Fr) : Fr := { r with tmps := fun i => f (r.tmps i) }
def frMap (f : FV → FV) : List Fr → List Fr
 | [] => []
 | r :: rs => r.map f :: frMap f rs
theorem frMap_eq (f : FV → FV) (rs : List Fr) : frMap f rs = rs.map (Fr.map f) := by
 induction rs with
 | nil => rfl
 | cons r rs ih => simp [frMap,ih]
def ASt.kill (S : ASt) (d : Nat) : ASt := { S with tmps := fun i => (S.tmps i).kill d,objs := delObj d S.objs,susp := frMap (FV.kill d) S.susp,blds := delB d S.blds,maps := mapMs (FV.kill d) (delM d S.maps),its := delM d S.its }
def FV.one : FV → Bool
 | .agg _ => false
 | .tup _ => false
 | .p x => x.one
 | .junk => false
 | _ => true
def allOne : List FV → Bool
 | [] => true
 | x :: xs => match x.one with
   | true => allOne xs
   | false => false
def mapP : List AV → List FV
 | [] => []
 | x :: xs => .p x :: mapP xs
def FV.cells : FV → List FV
 | .agg xs => xs
 | .p (.agg xs) => mapP xs
 | x => [x]
def takeN : Nat → List FV → Option (List FV)
 | 0,_ => some []
 | _ + 1,[] => none
 | n + 1,x :: xs => match takeN n xs with
   | some ys => some (x :: ys)
   | none => none
def takeA : Nat → List AV → Option (List AV)
 | 0,_ => some []
 | _ + 1,[] => none
 | n + 1,x :: xs => match takeA n xs with
   | some ys => some (x :: ys)
   | none => none
def dropN {α : Type} : Nat → List α → List α
 | 0,xs => xs
 | _ + 1,[] => []
 | n + 1,_ :: xs => dropN n xs
def setN {α : Type} : List α → Nat → α → Option (List α)
 | [],_,_ => none
 | _ :: xs,0,y => some (y :: xs)
 | x :: xs,n + 1,y => match setN xs n y with
   | some zs => some (x :: zs)
   | none => none
def setRange {α : Type} : List α → Nat → List α → Option (List α)
 | xs,_,[] => some xs
 | xs,n,y :: ys => match setN xs n y with
   | some zs => setRange zs (n + 1) ys
   | none => none
def FV.ofVal1 : Value → FV
 | .bool b => .p (.bool b)
 | .int k n => .p (.int k n)
 | .string s => .p (.str s.data.toList)
 | .pointer none => .p .nilp
 | .nilFunc => .p .nilf
 | .nilIface => .p .nili
 | .map none => .p .nilm
 | .slice none 0 0 => .full []
 | _ => .junk
def FV.ofVal : Value → FV
 | .agg cs => .agg (cs.toList.map FV.ofVal1)
 | .tuple ⟨[]⟩ => .p (.tup [])
 | v => FV.ofVal1 v
def ASt.val (S : ASt) : Operand → FV
 | .tmp t => S.get t
 | .const v => FV.ofVal v
 | .func f => .p (.fn (.func f) [] [])
 | .global g => match globCells g with
   | some xs => .p (.imp xs)
   | none => .junk
structure Al {α : Sort u} (p : α → Prop) : Prop where
 out : ∀ x,p x
def force (v : FV) (K : FV → Prop) : Prop := match v with
 | .p x => K (.p x)
 | .agg xs => K (.agg xs)
 | .tup xs => K (.tup xs)
 | .ptr o off => K (.ptr o off)
 | .tip t T e xs => K (.tip t T e xs)
 | .full xs => K (.full xs)
 | .fn f a b => K (.fn f a b)
 | .yld l => K (.yld l)
 | .osl o T e => K (.osl o T e)
 | .eptr o b off => K (.eptr o b off)
 | .mapr o => K (.mapr o)
 | .itr o => K (.itr o)
 | .junk => K .junk
theorem force_eq (v : FV) (K : FV → Prop) : force v K = K v := by cases v <;> rfl
def forceL : List FV → (List FV → Prop) → Prop
 | [],K => K []
 | x :: xs,K => force x fun y => forceL xs fun ys => K (y :: ys)
theorem forceL_eq (xs : List FV) (K : List FV → Prop) : forceL xs K = K xs := by
 induction xs generalizing K with
 | nil => rfl
 | cons x xs ih => simp only [forceL,force_eq,ih]
def FV.elems : FV → Option (List (List AV))
 | .p (.sl xs) => some xs
 | .tip _ _ _ xs => some xs
 | .full xs => some xs
 | _ => none
def bytesLt (a b : List UInt8) : Bool := Op.bytesLess a b
def evInt (op : BinOp) (k : IntKind) (a b : Int) (K : FV → Prop) : Prop :=
 match op with
 | .add => ∃ c,k.wrap (a + b) = c ∧ K (.p (.int k c))
 | .sub => ∃ c,k.wrap (a - b) = c ∧ K (.p (.int k c))
 | .mul => ∃ c,k.wrap (a * b) = c ∧ K (.p (.int k c))
 | .quo => b ≠ 0 ∧ ∃ c,k.wrap (a.tdiv b) = c ∧ K (.p (.int k c))
 | .rem => b ≠ 0 ∧ ∃ c,a.tmod b = c ∧ K (.p (.int k c))
 | .eql => Al fun t : Bool => t = (a == b) → K (.p (.bool t))
 | .neq => Al fun t : Bool => t = (a != b) → K (.p (.bool t))
 | .lss => Al fun t : Bool => t = decide (a < b) → K (.p (.bool t))
 | .leq => Al fun t : Bool => t = decide (a ≤ b) → K (.p (.bool t))
 | .gtr => Al fun t : Bool => t = decide (a > b) → K (.p (.bool t))
 | .geq => Al fun t : Bool => t = decide (a ≥ b) → K (.p (.bool t))
 | _ => False
def evStr (op : BinOp) (a b : List UInt8) (K : FV → Prop) : Prop :=
 match op with
 | .add => a.length + b.length < 2 ^ 62 ∧ K (.p (.str (a ++ b)))
 | .eql => Al fun t : Bool => t = (a == b) → K (.p (.bool t))
 | .neq => Al fun t : Bool => t = !(a == b) → K (.p (.bool t))
 | .lss => Al fun t : Bool => t = bytesLt a b → K (.p (.bool t))
 | .leq => Al fun t : Bool => t = (bytesLt a b || a == b) → K (.p (.bool t))
 | .gtr => Al fun t : Bool => t = !(bytesLt a b || a == b) → K (.p (.bool t))
 | .geq => Al fun t : Bool => t = !bytesLt a b → K (.p (.bool t))
 | _ => False
def kNum : IntKind → Nat
 | .i8 => 0
 | .i16 => 1
 | .i32 => 2
 | .i64 => 3
 | .u8 => 4
 | .u16 => 5
 | .u32 => 6
 | .u64 => 7
def sameK (k k' : IntKind) : Bool := Nat.beq (kNum k) (kNum k')
theorem sameK_eq {k k' : IntKind} (h : sameK k k' = true) : k = k' := by
 have := Nat.eq_of_beq_eq_true h
 cases k <;> cases k' <;> first | rfl | (simp [kNum] at this)
inductive Leaf where
 | bool
 | int (k : IntKind)
 | str
 deriving Inhabited
def chkL (P : Program) (t : TypeId) : Option (List Leaf) → Option (List Leaf)
 | none => none
 | some l => match Nat.beq (P.cellsOf t) l.length with
   | true => some l
   | false => none
mutual
def leavesOf (P : Program) : Nat → TypeId → Option (List Leaf)
 | 0,_ => none
 | d + 1,t => match P.underlying t with
   | some .bool => some [.bool]
   | some (.int k) => some [.int k]
   | some .string => some [.str]
   | some (.struct fs) => match P.stoodInHeld t with
     | true => none
     | false => chkL P t (leavesFs P d 0 fs.toList)
   | some (.array n e) => match leavesOf P d e with
     | none => none
     | some l => match Nat.beq (P.cellsOf e) l.length with
       | true => chkL P t (some (List.replicate n l).flatten)
       | false => none
   | _ => none
def leavesFs (P : Program) : Nat → Nat → List Field → Option (List Leaf)
 | 0,_,_ => none
 | _ + 1,_,[] => some []
 | d + 1, off, f :: fs => match f.name == "_", Nat.beq f.offset off with
   | false,true => match leavesOf P d f.type with
     | none => none
     | some l => match leavesFs P d (off + l.length) fs with
       | none => none
       | some r => some (l ++ r)
   | _,_ => none
end
def Leaf.fits : Leaf → AV → Bool
 | .bool,.bool _ => true
 | .int k,.int k' _ => sameK k k'
 | .str,.str _ => true
 | _,_ => false
def fitsL : List Leaf → List AV → Bool
 | [],[] => true
 | l :: ls,x :: xs => match l.fits x with
   | true => fitsL ls xs
   | false => false
 | _,_ => false
def fitsK (agg : Bool) (L : List Leaf) (x : AV) : Bool := match agg,x with
 | true,.agg xs => fitsL L xs
 | true,_ => false
 | false,.agg _ => false
 | false,x => fitsL L [x]
def sameA1 : AV → AV → Bool
 | .bool a,.bool b => a == b
 | .int k a,.int k' b => sameK k k' && a == b
 | .str a,.str b => a == b
 | _,_ => false
def sameAs : List AV → List AV → Bool
 | [],[] => true
 | x :: xs,y :: ys => sameA1 x y && sameAs xs ys
 | _,_ => false
def sameA : AV → AV → Bool
 | .agg a,.agg b => sameAs a b
 | x,y => sameA1 x y
def evBinA (C : Ctx) (t : TypeId) (op : BinOp) (x y : FV) (K : FV → Prop) : Prop :=
 match tabGet C.tab t with
 | none => False
 | some i => match i.shape.isAgg,x.toAV,y.toAV with
   | true,some (.agg xs),some (.agg ys) => ∃ L,leavesOf C.P 40 t = some L ∧ C.P.eqGuardType C.P.depth t = false ∧ fitsL L xs = true ∧ fitsL L ys = true ∧ (match op with
     | .eql => Al fun b : Bool => b = sameAs xs ys → K (.p (.bool b))
     | .neq => Al fun b : Bool => b = !sameAs xs ys → K (.p (.bool b))
     | _ => False)
   | _,_,_ => False
def evBin (C : Ctx) (t : TypeId) (op : BinOp) (x y : FV) (K : FV → Prop) : Prop :=
 match x,y with
 | .p (.int k a),.p (.int k' b) => match sameK k k' with
   | true => evInt op k a b K
   | false => False
 | .p (.str a),.p (.str b) => evStr op a b K
 | .ptr _ _,.p .nilp => match op,tabGet C.tab t with
   | .eql,some ⟨_,_,.ptr _,_⟩ => K (.p (.bool false))
   | .neq,some ⟨_,_,.ptr _,_⟩ => K (.p (.bool true))
   | _,_ => False
 | .p .nilp,.p .nilp => match op,tabGet C.tab t with
   | .eql,some ⟨_,_,.ptr _,_⟩ => K (.p (.bool true))
   | .neq,some ⟨_,_,.ptr _,_⟩ => K (.p (.bool false))
   | _,_ => False
 | .ptr o f,.ptr o' f' => match Nat.beq o o',Nat.beq f f',op,tabGet C.tab t with
   | true,true,.eql,some ⟨_,_,.ptr e,_⟩ => match tabGet C.tab e with
     | some _ => K (.p (.bool true))
     | none => False
   | true,true,.neq,some ⟨_,_,.ptr e,_⟩ => match tabGet C.tab e with
     | some _ => K (.p (.bool false))
     | none => False
   | _,_,_,_ => False
 | .p (.bool a),.p (.bool b) => match tabGet C.tab t with
   | some ⟨_,_,.bool,_⟩ => match op with
     | .eql => Al fun t : Bool => t = (a == b) → K (.p (.bool t))
     | .neq => Al fun t : Bool => t = !(a == b) → K (.p (.bool t))
     | _ => False
   | _ => False
 | x,y => evBinA C t op x y K
def isNilI : Operand → Bool
 | .const .nilIface => true
 | _ => false
def evNilI (C : Ctx) (t : TypeId) (op : BinOp) (x : FV) (K : FV → Prop) : Prop :=
 match tabGet C.tab t with
 | some ⟨_,_,.iface,_⟩ => match op,x with
   | .eql,.p .nili => K (.p (.bool true))
   | .eql,.p (.iface _ _) => K (.p (.bool false))
   | .neq,.p .nili => K (.p (.bool false))
   | .neq,.p (.iface _ _) => K (.p (.bool true))
   | _,_ => False
 | _ => False
def evLoad (C : Ctx) (objs : List (Nat × List FV)) (t : TypeId) (a : FV) (K : FV → Prop) : Prop :=
 match tabGet C.tab t with
 | none => False
 | some i => match a with
   | .ptr o off => match getObj objs o with
     | none => False
     | some cells => match i.shape.isAgg with
       | true => match takeN i.size (dropN off cells) with
         | none => False
         | some cs => K (.agg cs)
       | false => match dropN off cells with
         | [] => False
         | x :: _ => K x
   | .p (.imp xs) => match i.shape.isAgg with
     | true => match takeA i.size xs with
       | none => False
       | some cs => K (.p (.agg cs))
     | false => match xs with
       | [] => False
       | x :: _ => K (.p x)
   | .eptr o base off => match getObj objs o with
     | none => False
     | some cells => ∃ A ys B : List FV,cells = A ++ (ys ++ B) ∧ A.length = base ∧ (match i.shape.isAgg with
       | true => match takeN i.size (dropN off ys) with
         | none => False
         | some cs => K (.agg cs)
       | false => match dropN off ys with
         | [] => False
         | x :: _ => K x)
   | _ => False
def evFieldAddr (C : Ctx) (s : TypeId) (x : FV) (f : Nat) (K : FV → Prop) : Prop :=
 match tabGet C.tab s with
 | some ⟨_,_,.struct fs,_⟩ => match dropN f fs with
   | [] => False
   | (o,t) :: _ => match tabGet C.tab t with
     | none => False
     | some j => match j.size with
       | 0 => False
       | _ + 1 => match x with
         | .ptr b off => K (.ptr b (off + o))
         | .p (.imp xs) => K (.p (.imp (dropN o xs)))
         | .eptr b base off => K (.eptr b base (off + o))
         | _ => False
 | _ => False
def evField (C : Ctx) (s : TypeId) (x : FV) (f : Nat) (K : FV → Prop) : Prop :=
 match tabGet C.tab s with
 | some ⟨_,_,.struct fs,_⟩ => match dropN f fs with
   | [] => False
   | (o,t) :: _ => match tabGet C.tab t with
     | none => False
     | some j => match x with
       | .agg xs => match j.shape.isAgg with
         | true => match takeN j.size (dropN o xs) with
           | some cs => K (.agg cs)
           | none => False
         | false => match dropN o xs with
           | y :: _ => K y
           | [] => False
       | .p (.agg xs) => match j.shape.isAgg with
         | true => match takeA j.size (dropN o xs) with
           | some cs => K (.p (.agg cs))
           | none => False
         | false => match dropN o xs with
           | y :: _ => K (.p y)
           | [] => False
       | _ => False
 | _ => False
def evIndexAddr (C : Ctx) (objs : List (Nat × List FV)) (t : TypeId) (x i : FV) (K : FV → Prop) : Prop :=
 match i with
 | .p (.int _ n) => match tabGet C.tab t with
   | some ⟨_,_,.slice e,_⟩ => match tabGet C.tab e with
     | none => False
     | some j => match x with
       | .osl o _ esz => match getObj objs o,Nat.beq esz j.size with
         | some cells,true => ∃ m base : Nat,n = m ∧ m * esz = base ∧ base + esz ≤ cells.length ∧ K (.eptr o base 0)
         | _,_ => False
       | x => match x.elems with
         | none => False
         | some xs => 0 ≤ n ∧ ∃ ys,xs[n.toNat]? = some ys ∧ ys.length = j.size ∧ K (.p (.imp ys))
   | some ⟨_,_,.array len e,_⟩ => match tabGet C.tab e with
     | none => False
     | some j => ∃ m : Nat,n = m ∧ m < len ∧ (match x with
       | .ptr o off => ∃ sym : Bool,(match sym with
         | true => ∃ base,off + m * j.size = base ∧ K (.eptr o base 0)
         | false => K (.ptr o (off + m * j.size)))
       | .eptr o b off => ∃ base,b + (off + m * j.size) = base ∧ K (.eptr o base 0)
       | .p (.imp xs) => ∃ ys,dropN (m * j.size) xs = ys ∧ K (.p (.imp ys))
       | _ => False)
   | _ => False
 | _ => False
def evIndex (C : Ctx) (t : TypeId) (x i : FV) (K : FV → Prop) : Prop :=
 match i with
 | .p (.int _ n) => match tabGet C.tab t with
   | some ⟨_,_,.str,_⟩ => match x with
     | .p (.str s) => 0 ≤ n ∧ ∃ c,s[n.toNat]? = some c ∧ K (.p (.int .u8 c.toNat))
     | _ => False
   | some ⟨_,_,.array len e,_⟩ => match tabGet C.tab e with
     | none => False
     | some j => match j.shape.isAgg with
       | true => ∃ m : Nat,n = m ∧ m < len ∧ (match x with
         | .agg xs => match takeN j.size (dropN (m * j.size) xs) with
           | some cs => K (.agg cs)
           | none => False
         | .p (.agg xs) => match takeA j.size (dropN (m * j.size) xs) with
           | some cs => K (.p (.agg cs))
           | none => False
         | _ => False)
       | false => ∃ m : Nat,n = m ∧ m < len ∧ (match x with
         | .agg xs => match dropN (m * j.size) xs with
           | y :: _ => K y
           | [] => False
         | .p (.agg xs) => match dropN (m * j.size) xs with
           | y :: _ => K (.p y)
           | [] => False
         | _ => False)
   | _ => False
 | _ => False
def evBound (x : Option FV) (dflt : Nat) (K : Nat → Prop) : Prop :=
 match x with
 | none => K dflt
 | some (.p (.int _ n)) => ∃ m : Nat,n = m ∧ K m
 | some _ => False
def evSlice (C : Ctx) (t : TypeId) (x : FV) (lo hi : Option FV) (K : FV → Prop) : Prop :=
 match tabGet C.tab t with
 | some ⟨_,_,.str,_⟩ => match x with
   | .p (.str s) => evBound hi s.length fun h => evBound lo 0 fun l => l ≤ h ∧ h ≤ s.length ∧ ∃ s',(s.take h).drop l = s' ∧ K (.p (.str s'))
   | _ => False
 | some ⟨_,_,.slice e,_⟩ => match tabGet C.tab e with
   | none => False
   | some j => match x.elems with
     | none => False
     | some xs => evBound hi xs.length fun h => evBound lo 0 fun l => l ≤ h ∧ h ≤ xs.length ∧ (∀ ys,ys ∈ xs → ys.length = j.size) ∧ ∃ xs',(xs.take h).drop l = xs' ∧ K (.p (.sl xs'))
 | some ⟨_,_,.array len e,_⟩ => match tabGet C.tab e with
   | none => False
   | some j => match x with
     | .p (.imp xs) => evBound hi len fun h => evBound lo 0 fun l => l ≤ h ∧ h ≤ len ∧ j.size = 1 ∧ xs.length = len ∧ ∃ xs',((xs.take h).drop l).map (fun x => [x]) = xs' ∧ K (.p (.sl xs'))
     | _ => False
 | _ => False
def placeParts (fs : List (Nat × TypeId)) (tab : List (TypeId × TInfo)) (S : ASt) : List (Nat × Operand) → List FV → Option (List FV)
 | [],cells => some cells
 | (i,x) :: rest,cells => match dropN i fs with
   | [] => none
   | (o,t) :: _ => match tabGet tab t with
     | none => none
     | some j => match Nat.beq j.size 0,Nat.beq (S.val x).cells.length j.size,allOne (S.val x).cells with
       | false,true,true => match setRange cells o (S.val x).cells with
         | none => none
         | some cells' => placeParts fs tab S rest cells'
       | _,_,_ => none
def placeElems (size : Nat) (S : ASt) : List (Nat × Operand) → List FV → Option (List FV)
 | [],cells => some cells
 | (i,x) :: rest,cells => match Nat.beq size 0,Nat.beq (S.val x).cells.length size,allOne (S.val x).cells with
   | false,true,true => match setRange cells (i * size) (S.val x).cells with
     | none => none
     | some cells' => placeElems size S rest cells'
   | _,_,_ => none
def placesOf (tab : List (TypeId × TInfo)) : List (Nat × TypeId) → Option (List (Nat × Nat))
 | [] => some []
 | (o,t) :: fs => match tabGet tab t with
   | none => none
   | some j => match placesOf tab fs with
     | none => none
     | some ps => some ((o,j.size) :: ps)
def evBuild (C : Ctx) (S : ASt) (t : TypeId) (parts : List (Nat × Operand)) (K : FV → Prop) : Prop :=
 match tabGet C.tab t with
 | some ⟨_,_,.struct fs,zero⟩ => match placesOf C.tab fs with
   | none => False
   | some _ => match placeParts fs C.tab S parts (zero.map FV.ofVal1) with
     | some cs => forceL cs fun cs => K (.agg cs)
     | none => False
 | some ⟨_,_,.array _ e,zero⟩ => match tabGet C.tab e with
   | none => False
   | some j => match placeElems j.size S parts (zero.map FV.ofVal1) with
     | some cs => forceL cs fun cs => K (.agg cs)
     | none => False
 | _ => False
def repl {α : Type} : Nat → List α → List α
 | 0,_ => []
 | n + 1,xs => xs ++ repl n xs
def chunk {α : Type} (size : Nat) : Nat → List α → List (List α)
 | 0,_ => []
 | n + 1,xs => xs.take size :: chunk size n (xs.drop size)
def evBuildSlice (C : Ctx) (S : ASt) (t : TypeId) (len : Nat) (parts : List (Nat × Operand)) (K : FV → Prop) : Prop :=
 match tabGet C.tab t with
 | some ⟨_,_,.slice e,_⟩ => match tabGet C.tab e with
   | none => False
   | some j => match Nat.ble (len * j.size) 1000000 with
     | false => False
     | true => match placeElems j.size S parts (repl len (j.zero.map FV.ofVal1)) with
       | some cs => match allOne cs with
         | false => False
         | true => match FV.toAVs cs with
           | some ys => K (.full (chunk j.size len ys))
           | none => False
       | none => False
 | _ => False
def memN : Nat → List Nat → Bool
 | _,[] => false
 | i,d :: ds => match Nat.beq i d with
   | true => true
   | false => memN i ds
def Shape.listy : Shape → Bool
 | .slice _ => true
 | .str => true
 | _ => false
def FV.items : FV → Option (List (List AV))
 | .p (.str s) => some (s.map fun (b : UInt8) => [AV.int .u8 (b.toNat : Int)])
 | y => y.elems
def withNm (S : ASt) (d : Nat) (K : Nat → Prop) : Prop := match S.off with
 | 0 => K d
 | n + 1 => K (n + 1 + d)
theorem withNm_eq (S : ASt) (d : Nat) (K : Nat → Prop) : withNm S d K = K (S.off + d) := by
 unfold withNm
 split
 ·rename_i h; rw [h,Nat.zero_add]
 ·rename_i n h; rw [h]
def withNmL (S : ASt) (d : Nat) (K : Nat → Prop) : Prop := match S.off with
 | 0 => match Nat.beq d 999999 with
   | true => False
   | false => K d
 | n + 1 => match Nat.beq (n + 1 + d) 999999 with
   | true => False
   | false => K (n + 1 + d)
theorem withNmL_eq (S : ASt) (d : Nat) (K : Nat → Prop) : withNmL S d K = (Nat.beq (S.off + d) 999999 = false ∧ K (S.off + d)) := by
 unfold withNmL
 split
 ·rename_i h; rw [h,Nat.zero_add]; cases Nat.beq d 999999 <;> simp
 ·rename_i n h; rw [h]; cases Nat.beq (n + 1 + d) 999999 <;> simp
def forceNat (n : Nat) (K : Nat → Prop) : Prop := match n with
 | 0 => K 0
 | m + 1 => K (m + 1)
theorem forceNat_eq (n : Nat) (K : Nat → Prop) : forceNat n K = K n := by cases n <;> rfl
def evAppend (C : Ctx) (t u d : TypeId) (S : ASt) (x y : FV) (K : ASt → Prop) : Prop :=
 match tabGet C.tab t,tabGet C.tab u with
 | some ⟨_,_,.slice e,_⟩,some ui => match ui.shape.listy with
   | false => False
   | true => match tabGet C.tab e with
     | none => False
     | some j => match y.items with
       | none => False
       | some ys => match x with
         | .tip k T esz xs => match Nat.beq esz j.size,Nat.beq j.bytes 0,Nat.beq T e with
           | true,false,true => (∀ zs,zs ∈ xs → zs.length = esz) ∧ (∀ zs,zs ∈ ys → zs.length = esz) ∧ (xs.length + ys.length) * j.bytes ≤ 140737488355328 ∧
             ∃ zs,xs ++ ys = zs ∧ K ((S.kill k).put (some d) (.tip k T esz zs))
           | _,_,_ => False
         | .osl k T esz => match Nat.beq esz j.size,Nat.beq T e,Nat.beq j.bytes 0 with
           | true,true,false => match getO S.objs k with
             | none => False
             | some xs => ∃ n : Nat,xs.length = n * j.size ∧ (∀ zs,zs ∈ ys → zs.length = j.size) ∧ (n + ys.length) * j.bytes ≤ 140737488355328 ∧
               ∃ zs,FV.killL k (xs ++ mapP ys.flatten) = zs ∧ K ({ S.kill k with objs := (k,zs) :: delObj k S.objs }.put (some d) (.osl k e j.size))
           | _,_,_ => False
         | .full [] => match Nat.beq j.bytes 0 with
           | false => (∀ zs,zs ∈ ys → zs.length = j.size) ∧ ys.length * j.bytes ≤ 140737488355328 ∧
             withNm S d fun nm => K ((S.kill nm).put (some d) (.tip nm e j.size ys))
           | true => False
         | .full (q :: r) => match Nat.beq j.bytes 0 with
           | false => ys ≠ [] ∧ (∀ zs,zs ∈ q :: r → zs.length = j.size) ∧ (∀ zs,zs ∈ ys → zs.length = j.size) ∧ ((q :: r).length + ys.length) * j.bytes ≤ 140737488355328 ∧
             withNm S d fun nm => ∃ zs,(q :: r) ++ ys = zs ∧ K ((S.kill nm).put (some d) (.tip nm e j.size zs))
           | true => False
         | _ => False
 | _,_ => False
def evAppO (C : Ctx) (t u d : TypeId) (S : ASt) (x : FV) (o2 : Nat) (T2 : TypeId) (e2 : Nat) (K : ASt → Prop) : Prop :=
 match tabGet C.tab t,tabGet C.tab u with
 | some ⟨_,_,.slice e,_⟩,some ui => match ui.shape.listy with
   | false => False
   | true => match tabGet C.tab e with
     | none => False
     | some j => match Nat.beq e2 j.size,Nat.beq T2 e,Nat.beq j.bytes 0 with
       | true,true,false => match getObj S.objs o2 with
         | none => False
         | some ys => match x with
           | .osl k T esz => match Nat.beq esz j.size,Nat.beq T e,Nat.beq k o2 with
             | true,true,false => match getO S.objs k with
               | none => False
               | some xs => ∃ n m : Nat,xs.length = n * j.size ∧ ys.length = m * j.size ∧ allOne ys = true ∧ (n + m) * j.bytes ≤ 140737488355328 ∧
                 ∃ zs,FV.killL k (xs ++ ys) = zs ∧ K ({ S.kill k with objs := (k,zs) :: delObj k S.objs }.put (some d) (.osl k e j.size))
             | _,_,_ => False
           | .full [] => ∃ m : Nat,0 < m ∧ ys.length = m * j.size ∧ allOne ys = true ∧ m * j.bytes ≤ 140737488355328 ∧
             withNmL S d fun nm => ∃ zs,FV.killL nm ys = zs ∧ K ({ S.kill nm with objs := (nm,zs) :: delObj nm S.objs }.put (some d) (.osl nm e j.size))
           | _ => False
       | _,_,_ => False
 | _,_ => False
def evBuiltinV (C : Ctx) (objs : List (Nat × List FV)) (b : Builtin) (args : List FV) (types : List TypeId) (K : FV → Prop) : Prop :=
 match b with
 | .len => match args,types with
   | [x],[t] => match tabGet C.tab t with
     | none => False
     | some ⟨_,_,.str,_⟩ => match x with
       | .p (.str s) => K (.p (.int .i64 s.length))
       | _ => False
     | some ⟨_,_,.slice _,_⟩ => match x with
       | .osl o _ esz => match getObj objs o with
         | some cells => ∃ n : Nat,cells.length = n * esz ∧ K (.p (.int .i64 n))
         | none => False
       | x => match x.elems with
         | some xs => K (.p (.int .i64 xs.length))
         | none => False
     | _ => False
   | _,_ => False
 | .min => match args with
   | [.p (.int k a),.p (.int k' b)] => match sameK k k' with
     | true => ∃ c,(if b < a then b else a) = c ∧ K (.p (.int k c))
     | false => False
   | _ => False
 | .max => match args with
   | [.p (.int k a),.p (.int k' b)] => match sameK k k' with
     | true => ∃ c,(if b > a then b else a) = c ∧ K (.p (.int k c))
     | false => False
   | _ => False
 | _ => False
def ASt.got (S : ASt) (dst : Option Nat) : Ret → ASt
 | .val x => S.put dst (.p x)
 | .fresh T esz xs => match dst with
   | some d => (S.kill (S.off + d)).put (some d) (.tip (S.off + d) T esz xs)
   | none => S
 | .vf x => S.put dst x
def gotK (S : ASt) (dst : Option Nat) (r : Ret) (K : ASt → Prop) : Prop := match r with
 | .val x => K (S.put dst (.p x))
 | .fresh T esz xs => match dst with
   | some d => withNm S d fun nm => K ((S.kill nm).put (some d) (.tip nm T esz xs))
   | none => K S
 | .vf x => K (S.put dst x)
theorem gotK_eq (S : ASt) (dst : Option Nat) (r : Ret) (K : ASt → Prop) : gotK S dst r K = K (S.got dst r) := by
 unfold gotK ASt.got
 cases r with
 | val x => rfl
 | fresh T esz xs =>
   cases dst with
   | none => rfl
   | some d => simp only [withNm_eq]
 | vf x => rfl
abbrev Yld := Nat → List FV → (FV → ASt → Prop) → ASt → Prop
abbrev CallH := Yld → FuncId → List FV → (FV → ASt → Prop) → ASt → Prop
def ExtSame (P : Program) (g : FuncId) : Prop := ∀ (v : Value) (w : World),(callFunc g #[v]).run P w = .ok (.value v) w
def newBld (S : ASt) (d : Nat) : ASt :=
 { (S.kill (S.off + d)).put (some d) (.ptr (S.off + d) 0) with blds := (S.off + d,[]) :: delB (S.off + d) S.blds }
def AV.flat : AV → Bool
 | .bool _ => true
 | .int _ _ => true
 | .str _ => true
 | .nilp => true
 | .nilf => true
 | .nili => true
 | .nilm => true
 | _ => false
def flatL : List AV → Bool
 | [] => true
 | x :: xs => match x.flat with
   | true => flatL xs
   | false => false
theorem flatL_mem {xs : List AV} (h : flatL xs = true) : ∀ x,x ∈ xs → x.flat = true := by
 induction xs with
 | nil => simp
 | cons x xs ih =>
   simp only [flatL] at h
   split at h
   ·rename_i h1
    intro y hy
    rcases List.mem_cons.1 hy with rfl | hy
    ·exact h1
    ·exact ih h y hy
   ·cases h
theorem Rep.flat {imm imm' : Nat → Nat → Prop} {w : World} {v : Value} {x : AV} (h : Rep imm w v x) (hx : x.flat = true) : Rep imm' w v x := by
 cases h with
 | bool b => exact .bool b
 | int k n => exact .int k n
 | str s => exact .str s
 | nilp => exact .nilp
 | nilf => exact .nilf
 | nili => exact .nili
 | nilm => exact .nilm
 | _ => simp [AV.flat] at hx
def evBld (C : Ctx) (S : ASt) (dst : Option Nat) (g : FuncId) (o : Nat) (bs : List UInt8) (args : List FV) (K : ASt → Prop) : Prop :=
 match FV.toAVs args with
 | none => False
 | some xs => flatL xs = true ∧ ∃ (out : Option (List UInt8)) (r : AV),BldTo C g xs bs out r ∧ (match out with
   | some bs' => K ({ S with blds := setB S.blds o bs' }.put dst (.p r))
   | none => K ({ S with blds := delB o S.blds }.put dst (.p r)))
def bldArg (S : ASt) : List FV → Option (Nat × List UInt8 × List FV)
 | .ptr o 0 :: rest => match getB S.blds o with
   | some bs => some (o,bs,rest)
   | none => none
 | _ => none
def ASt.setO (S : ASt) (ob : Nat) (cs : List FV) : ASt := { S with objs := setObj S.objs ob cs }
def fmObjs (d : Nat) (z : AV) : List (Nat × List FV) → List (Nat × List FV)
 | [] => []
 | (u,i) :: r => (u,FV.fmL d z i) :: fmObjs d z r
def ASt.frzM (S : ASt) (d : Nat) (z : AV) : ASt :=
 { S with tmps := fun i => (S.tmps i).fm d z,objs := fmObjs d z S.objs,susp := frMap (FV.fm d z) S.susp,maps := mapMs (FV.fm d z) (delM d S.maps) }
def keysOf {α : Type} : List (AV × α) → List AV
 | [] => []
 | (k,_) :: r => k :: keysOf r
def valsOf {α : Type} : List (AV × α) → List α
 | [] => []
 | (_,x) :: r => x :: valsOf r
structure FrzM (S : ASt) (d : Nat) (ks vs : List AV) : Prop where
 mp : ∃ l,getM S.maps d = some l ∧ keysOf l = ks ∧ FV.toAVs (valsOf l) = some vs
def evFzCall (C : Ctx) (S : ASt) (dst : Option Nat) (g : FuncId) (args : List FV) (K : ASt → Prop) : Prop :=
 ∃ (d : Nat) (ks vs : List AV),FrzM S d ks vs ∧ match FV.toAVs (FV.fmL d (.mp ks vs) args) with
   | some xs => ∃ R,CallsTo C g xs R ∧ ∀ r,R r → gotK (S.frzM d (.mp ks vs)) dst r K
   | none => False
def fzObjs (d : Nat) (ys : List AV) : List (Nat × List FV) → List (Nat × List FV)
 | [] => []
 | (u,i) :: r => match Nat.beq u d with
   | true => fzObjs d ys r
   | false => (u,FV.fzL d ys i) :: fzObjs d ys r
def ASt.frz (S : ASt) (d : Nat) (ys : List AV) : ASt := { S with tmps := fun i => (S.tmps i).fz d ys,objs := fzObjs d ys S.objs,susp := frMap (FV.fz d ys) S.susp,maps := mapMs (FV.fz d ys) S.maps }
def allOneA : List AV → Bool
 | [] => true
 | x :: xs => match x.one with
   | true => allOneA xs
   | false => false
def evFzObj (C : Ctx) (S : ASt) (dst : Option Nat) (g : FuncId) (args : List FV) (K : ASt → Prop) : Prop :=
 ∃ (d : Nat) (ys : List AV),match getO S.objs d with
   | none => False
   | some cells => FV.toAVs cells = some ys ∧ allOneA ys = true ∧ match FV.toAVs (FV.fzL d ys args) with
     | some xs => ∃ R,CallsTo C g xs R ∧ ∀ r,R r → gotK (S.frz d ys) dst r K
     | none => False
def evObj (C : Ctx) (S : ASt) (dst : Option Nat) (g : FuncId) (args : List FV) (K : ASt → Prop) : Prop :=
 match args with
 | .ptr o 0 :: rest => match getObj S.objs o,FV.toAVs rest with
   | some cells,some xs => match FV.toAVs cells with
     | some (z :: zs) => ∃ R,ObjTo C g (z :: zs) xs R ∧ ∀ r ys,R r ys → K ((S.setO o (mapP ys)).put dst (.p r))
     | _ => False
   | _,_ => False
 | args => evFzCall C S dst g args K ∨ evFzObj C S dst g args K
def evInl (C : Ctx) (call : CallH) (Y : Yld) (S : ASt) (dst : Option Nat) (g : FuncId) (args : List FV) (K : ASt → Prop) : Prop :=
 match bldArg S args with
 | some (o,bs,rest) => evBld C S dst g o bs rest K
 | none => call Y g args (fun v S' => K (S'.put dst v)) S ∨ (ExtSame C.P g ∧ match args with
   | [x] => K (S.put dst x)
   | _ => False) ∨ evObj C S dst g args K
def growN : List FV → Option Int
 | [.full [],.p (.int .i64 n)] => some n
 | _ => none
def GrowTo (C : Ctx) (f : FuncId) (n : Int) (R : Ret → Prop) : Prop :=
 (∃ fn, C.P.funcs[f]? = some fn ∧ fn.body.isNone = false ∧ (fn.name == "runtime.NumGoroutine") = false) ∧
 ∀ (imm : Nat → Nat → Prop) (w : World) (a : Option Addr),C.J w ∧ GlobOK imm w → C.nglob ≤ w.heap.size → (∀ b o,imm b o → b < w.heap.size) →
   Calls C.P f #[.slice a 0 0,.int .i64 n] w fun e w' => ∃ v r,e = .returned v ∧ R r ∧ RetOK imm w.heap.size w' v r ∧ RowKit.Below w.heap.size w w'
def lent (imm : Nat → Nat → Prop) (b : Nat) : Ghost := ⟨imm,fun o => if o = 999999 then some b else none,fun _ => none,fun _ => none,fun _ => none,fun _ => none,fun _ => none⟩
mutual
def FV.only : FV → Bool
 | .p _ => true
 | .agg xs => FV.onlyL xs
 | .tup xs => FV.onlyL xs
 | .ptr o _ => Nat.beq o 999999
 | .full _ => true
 | .fn _ a b => match FV.onlyL a with
   | true => FV.onlyL b
   | false => false
 | .junk => true
 | _ => false
def FV.onlyL : List FV → Bool
 | [] => true
 | x :: xs => match x.only with
   | true => FV.onlyL xs
   | false => false
end
def ObjToP (C : Ctx) (f : FuncId) (cells : List AV) (args : List FV) (R : AV → List AV → Prop) (X : Value → Prop) : Prop :=
 (∃ fn, C.P.funcs[f]? = some fn ∧ fn.body.isNone = false ∧ (fn.name == "runtime.NumGoroutine") = false) ∧
 ∀ (imm : Nat → Nat → Prop) (w : World) (b : Nat) (vs : List Value),C.J w ∧ GlobOK imm w → C.nglob ≤ w.heap.size → (∀ b o,imm b o → b < w.heap.size) →
   C.nglob ≤ b → b < w.heap.size → (∀ i,¬ imm b i ∧ w.frozen? ⟨b,i,none⟩ = false) → (∀ (i : Nat) (x : AV),cells[i]? = some x → ∃ c,w.cell? ⟨b,i,none⟩ = some c ∧ Rep imm w c x) →
   vs.length = args.length → (∀ (i : Nat) (v : Value) (x : FV),vs[i]? = some v → args[i]? = some x → RepF (lent imm b) w v x) →
   Calls C.P f (.pointer (some ⟨b,0,none⟩) :: vs).toArray w fun e w' => ∃ cells' : List AV,cells'.length = cells.length ∧
    (∀ (i : Nat) (x : AV),cells'[i]? = some x → ∃ c,w'.cell? ⟨b,i,none⟩ = some c ∧ Rep (immOr imm w.heap.size) w' c x) ∧
    w'.os = w.os ∧ w'.tape = w.tape ∧ w'.output = w.output ∧ w.heap.size ≤ w'.heap.size ∧ (∀ k,k < w.heap.size → k ≠ b → w'.heap[k]? = w.heap[k]?) ∧
    (∀ cs T fr,w.heap[b]? = some (.cells cs T fr) → ∃ cs',w'.heap[b]? = some (.cells cs' T fr) ∧ cs'.size = cs.size) ∧
    ((∃ v r,e = .returned v ∧ R r cells' ∧ Rep (immOr imm w.heap.size) w' v r) ∨ ∃ v,e = .panicked [{ v := v,recovered := false }] ∧ X v)
def evObjP (C : Ctx) (S : ASt) (dst : Option Nat) (g : FuncId) (args : List FV) (K : ASt → Prop) : Prop :=
 match args with
 | .ptr o 0 :: rest => match getObj S.objs o with
   | some cells => match FV.toAVs cells with
     | some (z :: zs) => Nat.beq o 999999 = true ∧ FV.onlyL rest = true ∧ S.susp = [] ∧ Nat.beq (z :: zs).length C.plen = true ∧
      ∃ R X,ObjToP C g (z :: zs) rest R X ∧ (∀ r ys,R r ys → K ((S.setO o (mapP ys)).put dst (.p r))) ∧ ∀ v,X v → C.pan v
     | _ => False
   | none => False
 | _ => False
def evCall (C : Ctx) (call : CallH) (Y : Yld) (S : ASt) (dst : Option Nat) (f : FV) (args : List FV) (K : ASt → Prop) : Prop :=
 match f with
 | .p (.fn (.func g) first captured) => match memN g C.ex.inl with
   | true => evInl C call Y S dst g (mapP first ++ args ++ mapP captured) K
   | false => match memN g C.pfn with
     | true => evObjP C S dst g (mapP first ++ args ++ mapP captured) K
     | false => match FV.toAVs args with
       | some xs => match first,captured,growN args with
         | [],[],some n => (∃ R,GrowTo C g n R ∧ ∀ r,R r → gotK S dst r K) ∨ (∃ R,CallsTo C g xs R ∧ ∀ r,R r → gotK S dst r K)
         | _,_,_ => ∃ R,CallsTo C g (first ++ xs ++ captured) R ∧ ∀ r,R r → gotK S dst r K
       | none => evInl C call Y S dst g (mapP first ++ args ++ mapP captured) K
 | .fn (.func g) first captured => match memN g C.pfn with
   | true => evObjP C S dst g (first ++ args ++ captured) K
   | false => match FV.toAVs (first ++ args ++ captured) with
     | some xs => ∃ R,CallsTo C g xs R ∧ ∀ r,R r → gotK S dst r K
     | none => evInl C call Y S dst g (first ++ args ++ captured) K
 | .yld l => Y l args (fun v S' => K (S'.put dst v)) S
 | _ => False
def newObj (S : ASt) (d : Nat) (cells : List FV) : ASt :=
 { (S.kill (S.off + d)).put (some d) (.ptr (S.off + d) 0) with objs := (S.off + d,FV.killL (S.off + d) cells) :: delObj (S.off + d) S.objs }
def newObjK (S : ASt) (d : Nat) (cells : List FV) (K : ASt → Prop) : Prop :=
 withNmL S d fun nm => K { (S.kill nm).put (some d) (.ptr nm 0) with objs := (nm,FV.killL nm cells) :: delObj nm S.objs }
theorem newObjK_eq (S : ASt) (d : Nat) (cells : List FV) (K : ASt → Prop) : newObjK S d cells K = (Nat.beq (S.off + d) 999999 = false ∧ K (newObj S d cells)) := by
 unfold newObjK newObj
 rw [withNmL_eq]
def newBldK (S : ASt) (d : Nat) (K : ASt → Prop) : Prop :=
 withNmL S d fun nm => K { (S.kill nm).put (some d) (.ptr nm 0) with blds := (nm,[]) :: delB nm S.blds }
theorem newBldK_eq (S : ASt) (d : Nat) (K : ASt → Prop) : newBldK S d K = (Nat.beq (S.off + d) 999999 = false ∧ K (newBld S d)) := by
 unfold newBldK newBld
 rw [withNmL_eq]
def findM {α : Type} (k : AV) : List (AV × α) → Option α
 | [] => none
 | (k',x) :: r => match sameA k k' with
   | true => some x
   | false => findM k r
def updM {α : Type} (k : AV) (x : α) : List (AV × α) → List (AV × α)
 | [] => [(k,x)]
 | (k',y) :: r => match sameA k k' with
   | true => (k,x) :: r
   | false => (k',y) :: updM k x r
def zipA {α : Type} : List AV → List α → List (AV × α)
 | k :: ks,x :: xs => (k,x) :: zipA ks xs
 | _,_ => []
def FV.entries (maps : List (Nat × List (AV × FV))) : FV → Option (List (AV × FV))
 | .mapr o => getM maps o
 | .p (.mp ks vs) => some (zipA ks (mapP vs))
 | .p .nilm => some []
 | _ => none
def okV (ok : Bool) (x : FV) (b : Bool) : FV := match ok with
 | true => .tup [x,.p (.bool b)]
 | false => x
def evLookup (C : Ctx) (maps : List (Nat × List (AV × FV))) (t : TypeId) (x i : FV) (ok : Bool) (K : FV → Prop) : Prop :=
 match tabGet C.tab t with
 | some ⟨_,_,.map kT eT,_⟩ => match tabGet C.tab kT,i.toAV,x.entries maps with
   | some ki,some kk,some l => ∃ L,leavesOf C.P 40 kT = some L ∧ fitsK ki.shape.isAgg L kk = true ∧ (∀ p,p ∈ l → fitsK ki.shape.isAgg L p.1 = true) ∧
     ∃ r,findM kk l = r ∧ (match r with
       | some v => K (okV ok v true)
       | none => ∃ z : Value,(C.P.info? eT).map (·.zero) = some (some z) ∧ K (okV ok (FV.ofVal z) false))
   | _,_,_ => False
 | _ => False
def evUpd (C : Ctx) (S : ASt) (dst : Option Nat) (t : TypeId) (m k : FV) (x : FV) (K : ASt → Prop) : Prop :=
 match tabGet C.tab t with
 | some ⟨_,_,.map kT _,_⟩ => match m with
   | .mapr ob => match tabGet C.tab kT,k.toAV,getM S.maps ob with
     | some ki,some kk,some l => ∃ L,leavesOf C.P 40 kT = some L ∧ fitsK ki.shape.isAgg L kk = true ∧ (∀ p,p ∈ l → fitsK ki.shape.isAgg L p.1 = true) ∧
       ∃ l',updM kk x l = l' ∧ K ((S.wMaps (setM S.maps ob l')).put dst (.p (.tup [])))
     | _,_,_ => False
   | _ => False
 | _ => False
def newMapK (S : ASt) (d : Nat) (K : ASt → Prop) : Prop :=
 withNm S d fun nm => K { (S.kill nm).put (some d) (.mapr nm) with maps := (nm,[]) :: mapMs (FV.kill nm) (delM nm S.maps) }
def newItK (S : ASt) (d : Nat) (l : List (AV × AV)) (K : ASt → Prop) : Prop :=
 withNm S d fun nm => K { (S.kill nm).put (some d) (.itr nm) with its := (nm,(none,l)) :: delM nm S.its }
def evRangeM (C : Ctx) (S : ASt) (d : Nat) (t : TypeId) (x : FV) (K : ASt → Prop) : Prop :=
 match tabGet C.tab t with
 | some ⟨_,_,.map _ _,_⟩ => match x with
   | .p .nilm => newItK S d [] K
   | .p (.mp ks vs) => newItK S d (zipA ks vs) K
   | .mapr o => ∃ ks vs,FrzM S o ks vs ∧ newItK (S.frzM o (.mp ks vs)) d (zipA ks vs) K
   | _ => False
 | _ => False
def evNext (S : ASt) (dst : Option Nat) (it : FV) (K : ASt → Prop) : Prop :=
 match it with
 | .itr q => match getM S.its q with
   | none => False
   | some (_,l) => (l = [] → K (S.put dst (.tup [.p (.bool false)]))) ∧
     ∀ (A : List (AV × AV)) (p : AV × AV) (B : List (AV × AV)),l = A ++ p :: B → K ({ S with its := setM S.its q (some p,A ++ B) }.put dst (.tup [.p (.bool true),.p p.1,.p p.2]))
 | _ => False
def evEntry (S : ASt) (it : FV) (K : FV → Prop) : Prop :=
 match it with
 | .itr q => match getM S.its q with
   | some (some p,_) => K (.tup [.p p.1,.p p.2])
   | _ => False
 | _ => False
def evUn (op : UnOp) (x : FV) (K : FV → Prop) : Prop :=
 match op,x with
 | .not,.p (.bool b) => Al fun t : Bool => t = !b → K (.p (.bool t))
 | .neg,.p (.int k n) => ∃ c,k.wrap (0 - n) = c ∧ K (.p (.int k c))
 | _,_ => False
def Ret.plain : Ret → FV
 | .val x => .p x
 | .fresh _ _ xs => .p (.sl xs)
 | .vf x => x
def evCallV (C : Ctx) (f : FV) (args : List FV) (K : FV → Prop) : Prop :=
 match f with
 | .p (.fn (.func g) first captured) => match FV.toAVs args with
   | some xs => ∃ R,CallsTo C g (first ++ xs ++ captured) R ∧ ∀ r,R r → K r.plain
   | none => False
 | .fn (.func g) first captured => match FV.toAVs (first ++ args ++ captured) with
   | some xs => ∃ R,CallsTo C g xs R ∧ ∀ r,R r → K r.plain
   | none => False
 | _ => False
def evBytes (C : Ctx) (sh : Shape) (xs : Option (List (List AV))) (K : FV → Prop) : Prop := match sh,xs with
 | .slice e,some xs => match tabGet C.tab e with
   | some ⟨1,_,.int .u8,_⟩ => ∃ bs : List UInt8,xs = bs.map (fun b => [AV.int .u8 (b.toNat : Int)]) ∧ K (.p (.str bs))
   | _ => False
 | _,_ => False
def evConv (C : Ctx) (src dst : TypeId) (v : FV) (K : FV → Prop) : Prop := match tabGet C.tab src with
 | none => False
 | some ⟨_,_,sh,_⟩ => match tabGet C.tab dst with
   | some ⟨_,_,.int k,_⟩ => match v with
     | .p (.int _ n) => ∃ c,k.wrap n = c ∧ K (.p (.int k c))
     | _ => False
   | some ⟨_,_,.str,_⟩ => match v with
     | .p (.str s) => K (.p (.str s))
     | .p (.int _ n) => ∃ c : UInt8,n = (c.toNat : Int) ∧ c.toNat < 128 ∧ K (.p (.str [c]))
     | v => evBytes C sh v.elems K
   | _ => False
def evVal (C : Ctx) (S : ASt) (op : Op) (K : FV → Prop) : Prop := match op with
 | .move x => force (S.val x) K
 | .assign x => force (S.val x) K
 | .pick c a b => match S.val c with
   | .p (.bool true) => force (S.val a) K
   | .p (.bool false) => force (S.val b) K
   | _ => False
 | .binOp op t x y _ => match isNilI y with
   | true => evNilI C t op (S.val x) K
   | false => evBin C t op (S.val x) (S.val y) K
 | .unOp op _ x => evUn op (S.val x) K
 | .convert src dst x => evConv C src dst (S.val x) K
 | .makeInterface t x => match tabGet C.tab t with
   | some ⟨_,_,.iface,_⟩ => False
   | some _ => match (S.val x).toAV with
     | some y => K (.p (.iface t y))
     | none => False
   | none => False
 | .makeFunc fn first captured => forceL (first.toList.map S.val) fun a => forceL (captured.toList.map S.val) fun b => K (.fn fn a b)
 | .build t parts => evBuild C S t parts.toList K
 | .buildSlice t len parts => evBuildSlice C S t len parts.toList K
 | .load t a => evLoad C S.objs t (S.val a) K
 | .nilCheck x => match S.val x with
   | .ptr b off => K (.ptr b off)
   | .p (.imp xs) => K (.p (.imp xs))
   | .eptr o base off => K (.eptr o base off)
   | .p (.fn (.func f) a b) => K (.p (.fn (.func f) a b))
   | .fn (.func f) a b => K (.fn (.func f) a b)
   | _ => False
 | .fieldAddr s x f => evFieldAddr C s (S.val x) f K
 | .field s x f => evField C s (S.val x) f K
 | .indexAddr t x i => evIndexAddr C S.objs t (S.val x) (S.val i) K
 | .index t x i => evIndex C t (S.val x) (S.val i) K
 | .lookup t x i ok => evLookup C S.maps t (S.val x) (S.val i) ok K
 | .entry it => evEntry S (S.val it) K
 | .slice t x lo hi none => evSlice C t (S.val x) (lo.map S.val) (hi.map S.val) K
 | .extract x i => match S.val x with
   | .tup xs => match dropN i xs with
     | y :: _ => K y
     | [] => False
   | .p (.tup xs) => match dropN i xs with
     | y :: _ => K (.p y)
     | [] => False
   | _ => False
 | .call c => match c.callee with
   | .builtin b => evBuiltinV C S.objs b (c.args.toList.map S.val) c.argTypes.toList K
   | .value f => evCallV C (S.val f) (c.args.toList.map S.val) K
   | .invoke _ _ => False
 | _ => False
def evFrz : List Nat → (ASt → Prop) → ASt → Prop
 | [],K,S => K S
 | d :: ds,K,S => match getO S.objs d with
   | none => False
   | some cells => match FV.toAVs cells with
     | none => False
     | some ys => match allOneA ys with
       | true => evFrz ds K (S.frz d ys)
       | false => False
def evOpenCells (C : Ctx) (S : ASt) (e : TypeId) (len : Nat) (parts : List (Nat × Operand)) (K : List FV → Nat → Prop) : Prop :=
 match tabGet C.tab e with
 | none => False
 | some j => match Nat.ble (len * j.size) 1000000,Nat.beq j.size 0 with
   | true,false => match placeElems j.size S parts (repl len (j.zero.map FV.ofVal1)) with
     | some cs => match allOne cs with
       | false => False
       | true => forceL cs fun cs => K cs j.size
     | none => False
   | _,_ => False
def evOpenSlice (C : Ctx) (S : ASt) (e : TypeId) (d len : Nat) (parts : List (Nat × Operand)) (K : ASt → Prop) : Prop :=
 evOpenCells C S e len parts fun cs z => withNmL S d fun nm => K ({ S.kill nm with objs := (nm,FV.killL nm cs) :: delObj nm S.objs }.put (some d) (.osl nm e z))
def evMake (C : Ctx) (S : ASt) (t : TypeId) (d : Nat) (len cap : FV) (K : ASt → Prop) : Prop :=
 match tabGet C.tab t with
 | some ⟨_,_,.slice e,_⟩ => match tabGet C.tab e with
   | some ⟨1,bytes,_,[z]⟩ => match len,cap with
     | .p (.int _ n),.p (.int _ n') => ∃ m : Nat,n = m ∧ n' = m ∧ bytes * m ≤ 281474976710656 ∧ m ≤ 9223372036854775807 ∧
       withNmL S d fun nm => ∃ cs,FV.killL nm (List.replicate m (FV.ofVal1 z)) = cs ∧ K ({ S.kill nm with objs := (nm,cs) :: delObj nm S.objs }.put (some d) (.osl nm e 1))
     | _,_ => False
   | _ => False
 | _ => False
def evCutO (C : Ctx) (t : TypeId) (dst : Option Nat) (S : ASt) (k : Nat) (T : TypeId) (esz : Nat) (hi : FV) (K : ASt → Prop) : Prop :=
 match dst,tabGet C.tab t,hi with
 | some d,some ⟨_,_,.slice e,_⟩,.p (.int _ n) => match tabGet C.tab e with
   | none => False
   | some j => match Nat.beq esz j.size,getO S.objs k with
     | true,some xs => ∃ m N : Nat,n = m ∧ xs.length = N * esz ∧ m ≤ N ∧ ∃ zs,FV.killL k (xs.take (m * esz)) = zs ∧ K ({ S.kill k with objs := (k,zs) :: delObj k S.objs }.put (some d) (.osl k T esz))
     | _,_ => False
 | _,_,_ => False
def evSliceO (C : Ctx) (dst : Option Nat) (S : ASt) (t : TypeId) (x : Operand) (lo hi mx : Option Operand) (K : ASt → Prop) : Prop :=
 match S.val x with
 | .osl k T esz => match lo,hi,mx with
   | none,some h,none => evCutO C t dst S k T esz (S.val h) K
   | _,_,_ => False
 | _ => evVal C S (.slice t x lo hi mx) fun v => K (S.put dst v)
mutual
def FV.frO (d E : Nat) (yss : List (List AV)) : FV → FV
 | .ptr o off => match Nat.beq o d with
   | true => .junk
   | false => .ptr o off
 | .eptr o b off => match Nat.beq o d with
   | true => .junk
   | false => .eptr o b off
 | .osl o T e => match Nat.beq o d with
   | true => match Nat.beq e E with
     | true => .tip o T e yss
     | false => .junk
   | false => .osl o T e
 | .tip t T e xs => match Nat.beq t d with
   | true => .p (.sl xs)
   | false => .tip t T e xs
 | .agg xs => .agg (FV.frOL d E yss xs)
 | .tup xs => .tup (FV.frOL d E yss xs)
 | .fn f first captured => .fn f (FV.frOL d E yss first) (FV.frOL d E yss captured)
 | .p x => .p x
 | .full xs => .full xs
 | .yld l => match Nat.beq l d with
   | true => .junk
   | false => .yld l
 | .mapr o => match Nat.beq o d with
   | true => .junk
   | false => .mapr o
 | .itr o => match Nat.beq o d with
   | true => .junk
   | false => .itr o
 | .junk => .junk
def FV.frOL (d E : Nat) (yss : List (List AV)) : List FV → List FV
 | [] => []
 | x :: xs => FV.frO d E yss x :: FV.frOL d E yss xs
end
theorem FV.frOL_eq (d E : Nat) (yss : List (List AV)) (xs : List FV) : FV.frOL d E yss xs = xs.map (FV.frO d E yss) := by
 induction xs with
 | nil => simp [FV.frOL]
 | cons x xs ih => simp [FV.frOL,ih]
def frOObjs (d E : Nat) (yss : List (List AV)) : List (Nat × List FV) → List (Nat × List FV)
 | [] => []
 | (u,i) :: r => match Nat.beq u d with
   | true => frOObjs d E yss r
   | false => (u,FV.frOL d E yss i) :: frOObjs d E yss r
def ASt.frzO (S : ASt) (d E : Nat) (yss : List (List AV)) : ASt :=
 { S with tmps := fun i => (S.tmps i).frO d E yss,objs := frOObjs d E yss S.objs,susp := frMap (FV.frO d E yss) S.susp,blds := delB d S.blds,maps := mapMs (FV.frO d E yss) (delM d S.maps),its := delM d S.its }
mutual
def FV.rn (d e : Nat) : FV → FV
 | .ptr o off => match Nat.beq o d with
   | true => .ptr e off
   | false => .ptr o off
 | .eptr o b off => match Nat.beq o d with
   | true => .eptr e b off
   | false => .eptr o b off
 | .osl o T z => match Nat.beq o d with
   | true => .osl e T z
   | false => .osl o T z
 | .tip t T z xs => match Nat.beq t d with
   | true => .tip e T z xs
   | false => .tip t T z xs
 | .agg xs => .agg (FV.rnL d e xs)
 | .tup xs => .tup (FV.rnL d e xs)
 | .fn f first captured => .fn f (FV.rnL d e first) (FV.rnL d e captured)
 | .p x => .p x
 | .full xs => .full xs
 | .yld l => .yld l
 | .mapr o => .mapr o
 | .itr o => .itr o
 | .junk => .junk
def FV.rnL (d e : Nat) : List FV → List FV
 | [] => []
 | x :: xs => FV.rn d e x :: FV.rnL d e xs
end
theorem FV.rnL_eq (d e : Nat) (xs : List FV) : FV.rnL d e xs = xs.map (FV.rn d e) := by
 induction xs with
 | nil => simp [FV.rnL]
 | cons x xs ih => simp [FV.rnL,ih]
def rnObjs (d e : Nat) : List (Nat × List FV) → List (Nat × List FV)
 | [] => []
 | (u,i) :: r => match Nat.beq u d with
   | true => (e,FV.rnL d e i) :: rnObjs d e r
   | false => (u,FV.rnL d e i) :: rnObjs d e r
def ASt.rn0 (S : ASt) (d e : Nat) : ASt :=
 { S with tmps := fun i => (S.tmps i).rn d e,objs := rnObjs d e S.objs,susp := frMap (FV.rn d e) S.susp,blds := delB d S.blds,maps := mapMs (FV.rn d e) S.maps }
def ASt.rn (S : ASt) (d e : Nat) : ASt := (S.kill e).rn0 d e
structure FrzO (S : ASt) (d E : Nat) (yss : List (List AV)) : Prop where
 obj : ∃ cells,getO S.objs d = some cells ∧ FV.toAVs cells = some yss.flatten
 each : ∀ ys,ys ∈ yss → ys.length = E ∧ ∀ y,y ∈ ys → y.one = true
def evOp (C : Ctx) (call : CallH) (Y : Yld) (o : Oper) (K : ASt → Prop) (S : ASt) : Prop :=
 match o.op with
 | .makeFunc fn first captured => ∃ fr : List Nat,evFrz fr (fun S => forceL (first.toList.map S.val) fun a => forceL (captured.toList.map S.val) fun b => K (S.put o.dst (.fn fn a b))) S
 | .buildSlice t len parts => match o.dst,tabGet C.tab t with
   | some d,some ⟨_,_,.slice e,_⟩ => match memN d C.ex.opens with
     | true => evOpenSlice C S e d len parts.toList K
     | false => evBuildSlice C S t len parts.toList fun v => match v with
       | .full xs => match tabGet C.tab e with
         | none => False
         | some j => withNm S d fun nm => K ((S.kill nm).put (some d) (.tip nm e j.size xs))
       | _ => False
   | _,_ => False
 | .alloc t => match o.dst,tabGet C.tab t with
   | some d,some i => match Nat.beq t C.bT,i.zero with
     | true,[.pointer none,.slice none 0 0] => newBldK S d K
     | _,_ => forceL (i.zero.map FV.ofVal1) fun cs => newObjK S d cs K
   | _,_ => False
 | .box t x => match o.dst,tabGet C.tab t with
   | some d,some i => match Nat.beq (S.val x).cells.length i.size with
     | true => match allOne (S.val x).cells with
       | true => forceL (S.val x).cells fun cs => newObjK S d cs K
       | false => False
     | false => False
   | _,_ => False
 | .store t a x => match tabGet C.tab t,S.val a with
   | some i,.ptr ob off => match getObj S.objs ob with
     | none => False
     | some cells => match Nat.beq (S.val x).cells.length i.size with
       | true => match allOne (S.val x).cells with
         | true => match setRange cells off (S.val x).cells with
           | some cs => forceL cs fun cs => K ((S.setO ob cs).put o.dst (.p (.tup [])))
           | none => False
         | false => False
       | false => False
   | some i,.eptr ob base off => match getObj S.objs ob with
     | none => False
     | some cells => match Nat.beq (S.val x).cells.length i.size with
       | true => match allOne (S.val x).cells with
         | true => ∃ A ys B : List FV,cells = A ++ (ys ++ B) ∧ A.length = base ∧ (match setRange ys off (S.val x).cells with
           | some zs => forceL zs fun zs => ∃ cs,A ++ (zs ++ B) = cs ∧ K ((S.setO ob cs).put o.dst (.p (.tup [])))
           | none => False)
         | false => False
       | false => False
   | _,_ => False
 | .makeMap _ none => match o.dst with
   | some d => newMapK S d K
   | none => False
 | .makeSlice t len cap => match o.dst with
   | some d => evMake C S t d (S.val len) (S.val cap) K
   | none => False
 | .mapUpdate t m k x => evUpd C S o.dst t (S.val m) (S.val k) (S.val x) K
 | .insert t m k x => evUpd C S o.dst t (S.val m) (S.val k) (S.val x) K
 | .range t x => match o.dst with
   | some d => evRangeM C S d t (S.val x) K
   | none => False
 | .next it false => evNext S o.dst (S.val it) K
 | .slice t x lo hi mx => evSliceO C o.dst S t x lo hi mx K
 | .call c => match c.callee with
   | .builtin .append => match c.args.toList.map S.val,c.argTypes.toList,o.dst with
     | [x,y],[t,u],some d => match y with
       | .osl o2 T2 e2 => evAppO C t u d S x o2 T2 e2 K
       | y => evAppend C t u d S x y K
     | _,_,_ => False
   | .builtin b => evBuiltinV C S.objs b (c.args.toList.map S.val) c.argTypes.toList fun v => K (S.put o.dst v)
   | .value f => evCall C call Y S o.dst (S.val f) (c.args.toList.map S.val) K
   | .invoke _ _ => False
 | .panic x => match S.val x with
   | .p (.iface t (.int k n)) => S.susp = [] ∧ C.pan (.iface t (.int k n)) ∧ ∃ ys : List AV,getObj S.objs 999999 = some (mapP ys) ∧ ys.length = C.plen
   | _ => False
 | op => evVal C S op fun v => K (S.put o.dst v)
def sameB : Bool → Bool → Bool
 | true,b => b
 | false,true => false
 | false,false => true
theorem sameB_eq (a b : Bool) : sameB a b = (a == b) := by cases a <;> cases b <;> rfl
def evOps (C : Ctx) (call : CallH) (Y : Yld) (ops : Array Oper) : List Oper → (ASt → Prop) → ASt → Prop
 | [],K,S => K S
 | o :: rest,K,S => match o.guard with
   | none => evOp C call Y o (evOps C call Y ops rest K) S
   | some (j,want) => match (ops[j]?).bind (·.dst) with
     | none => False
     | some d => match S.get d with
       | .p (.bool b) => match sameB b want with
         | true => evOp C call Y o (evOps C call Y ops rest K) S
         | false => evOps C call Y ops rest K (S.put o.dst (.p (.tup [])))
       | .p (.tup []) => evOps C call Y ops rest K (S.put o.dst (.p (.tup [])))
       | _ => False
def evQ (C : Ctx) (ops : Array Oper) : List Oper → (ASt → Prop) → ASt → Prop
 | [],K,S => K S
 | o :: rest,K,S => match o.guard with
   | none => ∃ v,evVal C S o.op (fun u => u = v) ∧ evQ C ops rest K (S.put o.dst v)
   | some (j,want) => match (ops[j]?).bind (·.dst) with
     | none => False
     | some d => match S.get d with
       | .p (.bool b) => match sameB b want with
         | true => ∃ v,evVal C S o.op (fun u => u = v) ∧ evQ C ops rest K (S.put o.dst v)
         | false => evQ C ops rest K (S.put o.dst (.p (.tup [])))
       | .p (.tup []) => evQ C ops rest K (S.put o.dst (.p (.tup [])))
       | _ => False
def dstsOf : List Oper → List Nat
 | [] => []
 | o :: os => match o.dst with
   | some d => d :: dstsOf os
   | none => dstsOf os
def ASt.junked (S : ASt) (ds : List Nat) : ASt := { S with tmps := fun i => match memN i ds with
 | true => .junk
 | false => S.tmps i }
def Weak (x y : FV) : Prop := ∀ (G : Ghost) (w : World) (v : Value),RepF G w v x → RepF G w v y
structure Weaken (S S' : ASt) : Prop where
 n : S'.n = S.n
 off : S'.off = S.off
 pend : S'.pend = S.pend
 blds : ∀ o bs,getB S'.blds o = some bs → getB S.blds o = some bs ∧ (getObj S.objs o = none → getObj S'.objs o = none)
 susp : S'.susp.length = S.susp.length ∧ ∀ (i : Nat) (f f' : Fr),S.susp[i]? = some f → S'.susp[i]? = some f' → f'.n = f.n ∧ f'.off = f.off ∧ ∀ j,Weak (f.tmps j) (f'.tmps j)
 tmps : ∀ i,Weak (S.tmps i) (S'.tmps i)
 objs : ∀ o ys,getObj S'.objs o = some ys → ∃ xs,getObj S.objs o = some xs ∧ xs.length = ys.length ∧ ∀ (i : Nat) (x y : FV),xs[i]? = some x → ys[i]? = some y → Weak x y
 maps : ∀ o l',getM S'.maps o = some l' → ∃ l,getM S.maps o = some l ∧ l.length = l'.length ∧ ∀ (i : Nat) (p p' : AV × FV),l[i]? = some p → l'[i]? = some p' → p'.1 = p.1 ∧ Weak p.2 p'.2
 its : ∀ q x,getM S'.its q = some x → getM S.its q = some x
def thenX (K : ASt → Prop) (Q : Exit → ASt → Prop) : Exit → ASt → Prop
 | .normal,S => K S
 | e,S => Q e S
def inBlockX (id : Nat) (Q : Exit → ASt → Prop) : Exit → ASt → Prop
 | .exit n,S => match Nat.beq n id with
   | true => Q .normal S
   | false => Q (.exit n) S
 | e,S => Q e S
def PanA (C : Ctx) (Q : Exit → ASt → Prop) : Prop := ∀ (v : Value) (S : ASt) (ys : List AV),C.pan v → getObj S.objs 999999 = some (mapP ys) → ys.length = C.plen → Q (.panic [{ v := v,recovered := false }]) S
def guarded : List Oper → Bool
 | [] => false
 | o :: os => match o.guard with
   | some _ => true
   | none => guarded os
def keptOf : List Oper → List Nat
 | [] => []
 | [o] => match o.dst with
   | some d => [d]
   | none => []
 | o :: os => match o.op,o.dst with
   | .assign _,some d => d :: keptOf os
   | _,_ => keptOf os
def getAll (S : ASt) : List Nat → List FV
 | [] => []
 | r :: rs => S.get r :: getAll S rs
def evKeep (K : ASt → Prop) : ASt → List Nat → (List FV → Prop) → Prop
 | S,[],φ => Al fun _ : φ [] => K S
 | S,r :: rs,φ => Al fun v => evKeep K (S.put (some r) v) rs fun vs => φ (v :: vs)
def reachB (ops : Array Oper) : Nat → Nat → Nat → Bool
 | 0,_,_ => false
 | fuel + 1,j,i => match ops[j]? with
   | none => false
   | some o => o.after.toList.any fun e => Region.binds .any e && (e.on == i || reachB ops fuel e.on i)
def freeB (ops : Array Oper) (q : Nat → Bool) (listed : Array Bool) (k : Nat) : Bool :=
 match ops[k]? with
 | none => false
 | some o => (List.range ops.size).all fun j => j == k || listed.getD j true || reachB ops ops.size j k || (q j && match ops[j]? with
   | none => true
   | some oj => o.apart ops oj)
def drawFrom (ops : Array Oper) (m : Nat) : Nat → Nat → Array Bool → Bool
 | 0,_,listed => (Region.ready .any ops listed).isEmpty
 | fuel + 1,k,listed =>
   (match decide (k < m) with
    | true => (Region.ready .any ops listed).contains k && freeB ops (fun j => decide (j < m)) listed k
    | false => Region.ready .any ops listed == [k]) && drawFrom ops m fuel (k + 1) (listed.setIfInBounds k true)
def drawOK (ops : Array Oper) (m : Nat) : Bool := decide (m ≤ ops.size) && Region.noSelect ops && drawFrom ops m ops.size 0 (Array.replicate ops.size false)
mutual
def FV.safe (pr : List Nat) : FV → Bool
 | .p _ => true
 | .agg xs => FV.safeL pr xs
 | .tup xs => FV.safeL pr xs
 | .ptr o _ => memN o pr
 | .tip t _ _ _ => memN t pr
 | .full _ => true
 | .fn _ a b => match FV.safeL pr a with
   | true => FV.safeL pr b
   | false => false
 | .yld l => memN l pr
 | .osl o _ _ => memN o pr
 | .eptr o _ _ => memN o pr
 | .mapr o => memN o pr
 | .itr o => memN o pr
 | .junk => true
def FV.safeL (pr : List Nat) : List FV → Bool
 | [] => true
 | x :: xs => match FV.safe pr x with
   | true => FV.safeL pr xs
   | false => false
end
def opsL : Op → Option (List Operand)
 | .move x => some [x]
 | .assign x => some [x]
 | .pick c x y => some [c,x,y]
 | .binOp _ _ x y _ => some [x,y]
 | .unOp _ _ x => some [x]
 | .convert _ _ x => some [x]
 | .load _ x => some [x]
 | .nilCheck x => some [x]
 | .fieldAddr _ x _ => some [x]
 | .field _ x _ => some [x]
 | .indexAddr _ x i => some [x,i]
 | .index _ x i => some [x,i]
 | .slice _ x lo hi none => some (x :: (lo.toList ++ hi.toList))
 | .extract x _ => some [x]
 | .call ⟨.value f,args,_⟩ => some (f :: args.toList)
 | .call ⟨.builtin _,args,_⟩ => some args.toList
 | .build _ parts => some (parts.toList.map (·.2))
 | .buildSlice _ _ parts => some (parts.toList.map (·.2))
 | _ => none
def safeVals (pr : List Nat) (S : ASt) : List Operand → Bool
 | [] => true
 | z :: zs => match (S.val z).safe pr with
   | true => safeVals pr S zs
   | false => false
def safeC (pr : List Nat) (S : ASt) (op : Op) (v : FV) : Bool := match opsL op with
 | none => false
 | some zs => match safeVals pr S zs with
   | true => v.safe pr
   | false => false
def hardSafe (pr : List Nat) (S : ASt) (dst : Option Nat) : Op → Bool
 | .alloc _ => match dst with
   | some d => !memN (S.off + d) pr
   | none => false
 | .box _ _ => match dst with
   | some d => !memN (S.off + d) pr
   | none => false
 | .buildSlice _ _ _ => match dst with
   | some d => !memN (S.off + d) pr
   | none => false
 | .store _ a _ => match S.val a with
   | .ptr ob _ => !memN ob pr
   | .eptr ob _ _ => !memN ob pr
   | _ => false
 | .call ⟨.builtin .append,args,_⟩ => match args.toList.map S.val,dst with
   | x :: _,some d => match x with
     | .tip k _ _ _ => !memN k pr
     | .full _ => !memN (S.off + d) pr
     | .osl k _ _ => !memN k pr
     | _ => false
   | _,_ => false
 | _ => false
inductive Plan where
 | fin
 | one (k : Nat) (p : Plan)
 | alt (k : Nat) (p r : Plan)
 | stop
def Plan.heads : Plan → List Nat
 | .alt k _ r => k :: r.heads
 | _ => []
structure Kinds where
 calm : List Nat
 hard : List Nat
 wild : List Nat
 pr : List Nat
def Kinds.of (c : Kinds) (i : Nat) : Nat := match memN i c.calm with
 | true => 1
 | false => match memN i c.hard with
   | true => 2
   | false => match memN i c.wild with
     | true => 3
     | false => 0
def planOK (ops : Array Oper) (c : Kinds) : Plan → Bool → Nat → Array Bool → Bool
 | .fin,top,_,listed => top && (Region.ready .any ops listed).isEmpty
 | .stop,top,_,_ => !top
 | .one k p,top,fuel,listed => top && match fuel with
   | 0 => false
   | fuel + 1 => Nat.ble (c.of k) 1 && (Region.ready .any ops listed).contains k && freeB ops (fun j => Nat.ble (c.of j) (c.of k + 1)) listed k && planOK ops c p true fuel (listed.setIfInBounds k true)
 | .alt k p r,top,fuel,listed => (!top || Region.ready .any ops listed == (k :: r.heads)) && match fuel with
   | 0 => false
   | fuel' + 1 => planOK ops c p true fuel' (listed.setIfInBounds k true) && planOK ops c r false fuel listed
def evC1 (C : Ctx) (ops : Array Oper) (pr : List Nat) (o : Oper) (K : ASt → Prop) (S : ASt) : Prop :=
 match o.guard with
 | none => ∃ v,evVal C S o.op (fun u => u = v) ∧ safeC pr S o.op v = true ∧ K (S.put o.dst v)
 | some (j,want) => match (ops[j]?).bind (·.dst) with
   | none => False
   | some d => match S.get d with
     | .p (.bool b) => match sameB b want with
       | true => ∃ v,evVal C S o.op (fun u => u = v) ∧ safeC pr S o.op v = true ∧ K (S.put o.dst v)
       | false => K (S.put o.dst (.p (.tup [])))
     | .p (.tup []) => K (S.put o.dst (.p (.tup [])))
     | _ => False
def evH1 (C : Ctx) (call : CallH) (Y : Yld) (ops : Array Oper) (pr : List Nat) (o : Oper) (K : ASt → Prop) (S : ASt) : Prop :=
 match o.guard with
 | none => hardSafe pr S o.dst o.op = true ∧ evOp C call Y o K S
 | some (j,want) => match (ops[j]?).bind (·.dst) with
   | none => False
   | some d => match S.get d with
     | .p (.bool b) => match sameB b want with
       | true => hardSafe pr S o.dst o.op = true ∧ evOp C call Y o K S
       | false => K (S.put o.dst (.p (.tup [])))
     | .p (.tup []) => K (S.put o.dst (.p (.tup [])))
     | _ => False
def evStep (C : Ctx) (call : CallH) (Y : Yld) (ops : Array Oper) (c : Kinds) (k : Nat) (K : ASt → Prop) (S : ASt) : Prop :=
 match ops.toList[k]? with
 | none => False
 | some o => match c.of k with
   | 0 => evQ C ops [o] K S
   | 1 => evC1 C ops c.pr o K S
   | 2 => evH1 C call Y ops c.pr o K S
   | _ => evOps C call Y ops [o] K S
def evPlan (C : Ctx) (call : CallH) (Y : Yld) (ops : Array Oper) (c : Kinds) (K : ASt → Prop) : Plan → ASt → Prop
 | .fin,S => K S
 | .stop,_ => True
 | .one k p,S => evStep C call Y ops c k (evPlan C call Y ops c K p) S
 | .alt k p r,S => match r with
   | .stop => evStep C call Y ops c k (evPlan C call Y ops c K p) S
   | _ => evStep C call Y ops c k (evPlan C call Y ops c K p) S ∧ evPlan C call Y ops c K r S
inductive How where
 | lex (m : Nat)
 | keep (φ : List FV → Prop)
 | plan (c : Kinds) (p : Plan) (T : Option ASt)
 | sea (c : Kinds) (J : Array Bool → ASt → Prop)
def evRegion (C : Ctx) (call : CallH) (Y : Yld) (ops : Array Oper) (draw : Bool) (K : ASt → Prop) (S : ASt) : Prop :=
 match draw,guarded ops.toList with
 | false,false => evOps C call Y ops ops.toList K S
 | false,true => ∃ φ : Option (List FV → Prop),match φ with
   | some φ => evQ C ops ops.toList (fun S' => φ (getAll S' (keptOf ops.toList))) S ∧
    evKeep K (S.junked (dstsOf ops.toList)) (keptOf ops.toList) φ
   | none => evOps C call Y ops ops.toList K S
 | true,_ => ∃ how : How,match how with
   | .lex m => drawOK ops m = true ∧ evQ C ops (ops.toList.take m) (evOps C call Y ops (ops.toList.drop m) K) S
   | .keep φ => drawOK ops ops.size = true ∧ evQ C ops ops.toList (fun S' => φ (getAll S' (keptOf ops.toList))) S ∧
     evKeep K (S.junked (dstsOf ops.toList)) (keptOf ops.toList) φ
   | .plan c p T => planOK ops c p true ops.size (Array.replicate ops.size false) = true ∧ match T with
     | none => evPlan C call Y ops c K p S
     | some T => evPlan C call Y ops c (fun S' => Weaken S' T) p S ∧ K T
   | .sea c J => J (Array.replicate ops.size false) S ∧
     (∀ (listed : Array Bool) (S' : ASt) (k : Nat),J listed S' → k ∈ Region.ready .any ops listed → evStep C call Y ops c k (J (listed.setIfInBounds k true)) S') ∧
     ∀ (listed : Array Bool) (S' : ASt),J listed S' → Region.ready .any ops listed = [] → K S'
def getP : List PSt → Nat → Option PSt
 | [],_ => none
 | p :: _,0 => some p
 | _ :: r,n + 1 => getP r n
def setP : List PSt → Nat → PSt → List PSt
 | [],_,_ => []
 | _ :: r,0,q => q :: r
 | p :: r,n + 1,q => p :: setP r n q
def getF : List Fr → Nat → Option Fr
 | [],_ => none
 | p :: _,0 => some p
 | _ :: r,n + 1 => getF r n
def setTs (f : Nat → FV) : List Nat → List FV → Nat → FV
 | p :: ps,x :: xs => setTs (fun i => match Nat.beq i p with
   | true => x
   | false => f i) ps xs
 | _,_ => f
def ASt.enter (S : ASt) (n : Nat) (tmps : Nat → FV) : ASt :=
 { n := n,off := S.off + 1000,tmps := tmps,objs := S.objs,susp := ⟨S.n,S.off,S.tmps⟩ :: S.susp,pend := S.pend,blds := S.blds,maps := S.maps,its := S.its }
def ASt.leave (S : ASt) (K : ASt → Prop) : Prop := match S.susp with
 | [] => False
 | f :: r => K { n := f.n,off := f.off,tmps := f.tmps,objs := S.objs,susp := r,pend := S.pend,blds := S.blds,maps := S.maps,its := S.its }
def argTmps (args : List FV) : Nat → FV := fun i => match args[i]? with
 | some x => x
 | none => .p (.tup [])
def roundOut (lvl : Nat) (st : PSt) (K : ASt → Prop) (S : ASt) : Prop := match getP S.pend lvl with
 | some .busy => ASt.leave { S with pend := setP S.pend lvl st } K
 | _ => False
def roundEnd (lvl : Nat) (K : FV → ASt → Prop) : Exit → ASt → Prop
 | .normal,S => roundOut lvl .ready (K (.p (.bool true))) S
 | .ret,S => roundOut lvl .doneRet (K (.p (.bool false))) S
 | .exit id,S => roundOut lvl (.doneExit id) (K (.p (.bool false))) S
 | _,_ => False
def roundIn (lvl : Nat) (K : ASt → Prop) (S : ASt) : Prop := match getP S.pend lvl with
 | some .ready => K { S with pend := setP S.pend lvl .busy }
 | _ => False
def rangeEnd (lvl : Nat) (Q : Exit → ASt → Prop) (S : ASt) : Prop := match getP S.pend lvl with
 | some .ready => Q .normal { S with pend := S.pend.take lvl }
 | some .doneRet => Q .ret { S with pend := S.pend.take lvl }
 | some (.doneExit id) => Q (.exit id) { S with pend := S.pend.take lvl }
 | _ => False
def loopFr (S : ASt) (depth : Nat) : Option Fr := getF S.susp (S.susp.length - depth - 1)
def evRound (Y : Yld) (assign body : (Exit → ASt → Prop) → ASt → Prop) (ps : List Nat) (lvl depth : Nat) : Yld := fun l args K S1 =>
 match Nat.beq l (1000000 + lvl) with
 | false => Y l args K S1
 | true => match getP S1.pend lvl,loopFr S1 depth with
   | some .ready,some fr => Nat.beq args.length ps.length = true ∧
     assign (thenX (roundIn lvl (body (roundEnd lvl K))) fun _ _ => False) (S1.enter fr.n (setTs fr.tmps ps args))
   | _,_ => False
def evF (C : Ctx) (call : CallH) (Y : Yld) : Code → (Exit → ASt → Prop) → ASt → Prop
 | .skip,Q,S => Q .normal S
 | .region id ops draw,Q,S => match memN id C.cuts with
   | true => ∃ T,Weaken S T ∧ evRegion C call Y ops draw (Q .normal) T
   | false => match memN (S.off + id) C.ex.frz with
     | true => ∃ (d E : Nat) (yss : List (List AV)),FrzO S d E yss ∧ evRegion C call Y ops draw (Q .normal) (S.frzO d E yss)
     | false => match memN (S.off + id) C.ex.frm with
       | true => ∃ (d : Nat) (ks vs : List AV),FrzM S d ks vs ∧ evRegion C call Y ops draw (Q .normal) (S.frzM d (.mp ks vs))
       | false => match memN (S.off + id) C.ex.ren with
         | true => ∃ d e : Nat,Nat.beq d 999999 = false ∧ Nat.beq e 999999 = false ∧ evRegion C call Y ops draw (Q .normal) (S.rn d e)
         | false => evRegion C call Y ops draw (Q .normal) S
 | .seq a b,Q,S => evF C call Y a (thenX (evF C call Y b Q) Q) S
 | .cond c x y,Q,S => match S.val c with
   | .p (.bool true) => evF C call Y x Q S
   | .p (.bool false) => evF C call Y y Q S
   | _ => False
 | .block id c,Q,S => evF C call Y c (inBlockX id Q) S
 | .loop c,Q,S => ∃ (α : Type) (I : α → ASt → Prop) (μ : α → Nat),(∃ a S',Weaken S S' ∧ I a S') ∧
  ∀ a S,I a S → evF C call Y c (thenX (fun S' => ∃ a' S'',Weaken S' S'' ∧ I a' S'' ∧ μ a' < μ a) Q) S
 | .rangeFunc g ps assign body,Q,S => forceNat S.pend.length fun lvl => forceNat S.susp.length fun dep => match S.val g with
   | .p (.fn (.func f) [] captured) => call (evRound Y (evF C call Y assign) (evF C call Y body) ps.toList lvl dep) f (.yld (1000000 + lvl) :: mapP captured)
    (fun _ S' => rangeEnd lvl Q S') { S.kill (1000000 + lvl) with pend := S.pend ++ [.ready] }
   | .fn (.func f) [] captured => call (evRound Y (evF C call Y assign) (evF C call Y body) ps.toList lvl dep) f (.yld (1000000 + lvl) :: FV.killL (1000000 + lvl) captured)
    (fun _ S' => rangeEnd lvl Q S') { S.kill (1000000 + lvl) with pend := S.pend ++ [.ready] }
   | _ => False
 | .exit id,Q,S => Q (.exit id) S
 | .ret,Q,S => Q .ret S
 | _,_,_ => False
def initS (ntmps : Nat) (args : List AV) : ASt :=
 { n := ntmps,tmps := fun i => match (args)[i]? with
   | some x => .p x
   | none => .p (.tup []),off := 0,objs := [],susp := [],pend := [],blds := [] }
def evResults (C : Ctx) (S : ASt) : List ResultVar → (List AV → Prop) → Prop
 | [],K => K []
 | .tmp t :: rest,K => match (S.get t).toAV with
   | some x => evResults C S rest fun xs => K (x :: xs)
   | none => False
 | .cell a t :: rest,K => evLoad C S.objs t (S.get a) fun v => match v.toAV with
   | some x => evResults C S rest fun xs => K (x :: xs)
   | none => False
def evResF (C : Ctx) (S : ASt) : List ResultVar → (List FV → Prop) → Prop
 | [],K => K []
 | .tmp t :: rest,K => evResF C S rest fun xs => K (S.get t :: xs)
 | .cell a t :: rest,K => evLoad C S.objs t (S.get a) fun v => evResF C S rest fun xs => K (v :: xs)
def tupF : List FV → FV
 | [v] => v
 | vs => .tup vs
def backPost (C : Ctx) (rs : List ResultVar) (K : FV → ASt → Prop) : Exit → ASt → Prop
 | .normal,S => evResF C S rs fun vs => S.leave (K (tupF vs))
 | .ret,S => evResF C S rs fun vs => S.leave (K (tupF vs))
 | _,_ => False
def callN (C : Ctx) : Nat → CallH
 | 0 => fun _ _ _ _ _ => False
 | k + 1 => fun Y g args K S => ∃ fn, C.P.funcs[g]? = some fn ∧ fn.body.isSome = true ∧ (fn.name == "runtime.NumGoroutine") = false ∧ Nat.ble args.length fn.ntmps = true ∧
     evF C (callN C k) Y (match fn.body with
      | some c => c
      | none => .skip) (backPost C fn.results.toList K) (S.enter fn.ntmps (argTmps args))
def noYld : Yld := fun _ _ _ _ => False
def ev (C : Ctx) : Code → (Exit → ASt → Prop) → ASt → Prop := evF C (callN C 6) noYld
def evReturn (C : Ctx) (rs : List ResultVar) (R : Ret → Prop) (S : ASt) : Prop :=
 match C.ex.full with
 | true => evResF C S rs fun vs => match FV.safeL [] vs with
   | true => R (.vf (tupF vs))
   | false => False
 | false => match rs with
 | [.tmp t] => match S.get t with
   | .tip _ T esz xs => R (.fresh T esz xs) ∨ R (.val (.sl xs))
   | .full [] => (∃ T esz,R (.fresh T esz [])) ∨ R (.val (.sl []))
   | .mapr o => ∃ ks vs : List AV,FrzM S o ks vs ∧ R (.val (.mp ks vs))
   | x => match x.toAV with
     | some y => R (.val y)
     | none => False
 | [.cell a t] => evLoad C S.objs t (S.get a) fun v => match v.toAV with
   | some y => R (.val y)
   | none => False
 | rs => evResults C S rs fun xs => R (.val (.tup xs))
def retPost (C : Ctx) (rs : List ResultVar) (R : Ret → Prop) : Exit → ASt → Prop
 | .normal,S => evReturn C rs R S
 | .ret,S => evReturn C rs R S
 | _,_ => False
def initO (ntmps : Nat) (cells args : List AV) : ASt :=
 { n := ntmps,tmps := argTmps (.ptr 999999 0 :: mapP args),off := 0,objs := [(999999,mapP cells)],susp := [],pend := [],blds := [] }
def evReturnO (C : Ctx) (rs : List ResultVar) (n : Nat) (R : AV → List AV → Prop) (S : ASt) : Prop :=
 evResF C S rs fun vs => match (tupF vs).toAV,getObj S.objs 999999 with
  | some r,some cells => match FV.toAVs cells with
    | some ys => Nat.beq ys.length n = true ∧ R r ys
    | none => False
  | _,_ => False
def retPostO (C : Ctx) (rs : List ResultVar) (n : Nat) (R : AV → List AV → Prop) : Exit → ASt → Prop
 | .normal,S => evReturnO C rs n R S
 | .ret,S => evReturnO C rs n R S
 | _,_ => False
def initP (ntmps : Nat) (cells : List AV) (args : List FV) : ASt :=
 { n := ntmps,tmps := argTmps (.ptr 999999 0 :: args),off := 0,objs := [(999999,mapP cells)],susp := [],pend := [],blds := [] }
def retPostP (C : Ctx) (rs : List ResultVar) (n : Nat) (R : AV → List AV → Prop) : Exit → ASt → Prop
 | .normal,S => evReturnO C rs n R S
 | .ret,S => evReturnO C rs n R S
 | .panic ch,S => ∃ v,ch = [{ v := v,recovered := false }] ∧ C.pan v ∧ ∃ ys : List AV,getObj S.objs 999999 = some (mapP ys) ∧ ys.length = n
 | _,_ => False
end Qv

end

section
namespace Qv
open Go Go.RowKit
structure Kept (own : List Nat) (w w' : World) : Prop where
 os : w'.os = w.os
 tape : w'.tape = w.tape
 output : w'.output = w.output
 size : w.heap.size ≤ w'.heap.size
 block : ∀ k,k < w.heap.size → k ∉ own → w'.heap[k]? = w.heap[k]?
 shape : ∀ k cs T fr,k ∈ own → w.heap[k]? = some (.cells cs T fr) → ∃ cs',w'.heap[k]? = some (.cells cs' T fr) ∧ cs'.size = cs.size
structure Env where
 C : Ctx
 w0 : World
 imm0 : Nat → Nat → Prop
 hJ : C.J w0
 hn : C.nglob ≤ w0.heap.size
 rnd : Option Nat
 susp : List (Array Value)
 loops : List (Nat × Loop)
 fixed : List Nat
 own : List Nat := []
 hown : ∀ b,b ∈ own → C.nglob ≤ b ∧ b < w0.heap.size ∧ ∀ o,¬ imm0 b o := by intro _ h; cases h
def Env.mine (E : Env) (o b : Nat) : Prop := (E.w0.heap.size ≤ b ∧ (o = 999999 → E.own = [])) ∨ (o = 999999 ∧ b ∈ E.own)
theorem getO_some {l : List (Nat × List FV)} {d : Nat} {cs : List FV} (h : getO l d = some cs) : d ≠ 999999 ∧ Qv.getObj l d = some cs := by
 unfold getO at h
 split at h
 ·cases h
 ·rename_i hb
  exact ⟨Nat.ne_of_beq_eq_false hb,h⟩
theorem Env.mine_new {E : Env} {o b : Nat} (h : E.mine o b) (ho : o ≠ 999999) : E.w0.heap.size ≤ b := by
 rcases h with h | h
 ·exact h.1
 ·exact absurd h.1 ho
theorem Env.mine_ne {E : Env} {o b k : Nat} (h : E.mine o b) (hk : k < E.w0.heap.size) (hk' : k ∉ E.own) : k ≠ b := by
 rintro rfl
 rcases h with h | h
 ·omega
 ·exact hk' h.2
theorem Env.mine_own {E : Env} {b c : Nat} (h : E.mine 999999 b) (ho : E.own = [c]) : b = c := by
 rcases h with h | h
 ·rw [h.2 rfl] at ho; cases ho
 ·simpa [ho] using h.2
def PSt.of (r : Loop) : PSt → Loop
 | .ready => { r with state := .ready,pending := none }
 | .busy => { r with state := .busy,pending := none }
 | .doneRet => { r with state := .done,pending := some .ret }
 | .doneExit id => { r with state := .done,pending := some (.exit id) }
abbrev mark (r : Nat) : Deferred := { target := .collected r,args := #[] }
def EntL (imm : Nat → Nat → Prop) (w : World) (es : List MapEntry) (l : List (AV × AV)) : Prop :=
 es.length = l.length ∧ ∀ (i : Nat) (e : MapEntry) (p : AV × AV),es[i]? = some e → l[i]? = some p → Rep imm w e.key p.1 ∧ Rep imm w e.val p.2
def leftL (es : List MapEntry) (seen : Array Nat) : List MapEntry := es.filter fun e => !seen.contains e.born
def ItAt (imm : Nat → Nat → Prop) (w : World) (r : Nat) (x : Option (AV × AV) × List (AV × AV)) : Prop :=
 (x = (none,[]) ∧ w.heap[r]? = some (.mapIter none 0 #[] 0)) ∨
 ∃ (m clk : Nat) (es : List MapEntry) (seen : Array Nat),w.heap[r]? = some (.mapIter (some m) clk seen clk) ∧ w.heap[m]? = some (.map es.toArray clk) ∧ imm m 0 ∧ MapFine es clk ∧
   EntL imm w (leftL es seen) x.2 ∧ ∀ p,x.1 = some p → ∃ (e : MapEntry) (seen0 : Array Nat),e ∈ es ∧ seen = seen0.push e.born ∧ Rep imm w e.key p.1 ∧ Rep imm w e.val p.2
structure Mps (E : Env) (G : Ghost) (S : ASt) (w : World) : Prop where
 at_ : ∀ o l,getM S.maps o = some l → ∃ (b clk : Nat) (es : List MapEntry),G.mp o = some b ∧ w.heap[b]? = some (.map es.toArray clk) ∧ MapFine es clk ∧ es.length = l.length ∧
  ∀ (i : Nat) (e : MapEntry) (p : AV × FV),es[i]? = some e → l[i]? = some p → Rep G.imm w e.key p.1 ∧ RepF G w e.val p.2
 loc : ∀ o b,G.mp o = some b → E.w0.heap.size ≤ b ∧ (∀ i,¬ G.imm b i) ∧ ∃ es clk,w.heap[b]? = some (.map es clk)
 inj : ∀ o o' b,G.mp o = some b → G.mp o' = some b → o = o'
 its : ∀ q x,getM S.its q = some x → ∃ r,G.it q = some r ∧ ItAt G.imm w r x
 itLoc : ∀ q r,G.it q = some r → E.w0.heap.size ≤ r ∧ ∃ m s seen c,w.heap[r]? = some (.mapIter m s seen c)
 itInj : ∀ q q' r,G.it q = some r → G.it q' = some r → q = q'
 apart : ∀ o o' b,G.mp o = some b → G.loc o' ≠ some b
structure Ext (E : Env) (G : Ghost) (S : ASt) (a : Act) (w : World) : Prop where
 mps : Mps E G S w
 suspLen : S.susp.length = E.susp.length
 susp : ∀ (i : Nat) (vals : Array Value) (fr : Fr),E.susp[i]? = some vals → S.susp[i]? = some fr → vals.size = fr.n ∧ ∀ j,j < fr.n → RepF G w (vals.getD j undef) (fr.tmps j)
 pendLen : S.pend.length = E.loops.length
 loops : ∀ (i k : Nat) (r : Loop) (st : PSt),E.loops[i]? = some (k,r) → S.pend[i]? = some st → E.w0.heap.size ≤ k ∧ w.heap[k]? = some (.loop (st.of r))
 loopInj : ∀ (i j k : Nat) (r r' : Loop),E.loops[i]? = some (k,r) → E.loops[j]? = some (k,r') → i = j
 yl : ∀ (i k : Nat) (r : Loop),E.loops[i]? = some (k,r) → ∀ k',G.yl (1000000 + i) = some k' → k' = k
 rnd : ∀ l,E.rnd = some l → ∃ (i : Nat) (r : Loop),E.loops[i]? = some (l,r)
 marks : ∃ ms : List Nat,a.defers = ms.map mark ∧ (ms ++ E.fixed).Nodup ∧ ∀ r,r ∈ ms ++ E.fixed → E.w0.heap.size ≤ r ∧ w.heap[r]? = some (.deferred (some []))
 glob : GlobOK G.imm w
def Others (w w' : World) : Prop := ∀ (k : Nat) (o : Obj),w.heap[k]? = some o → o.isCells = false → w'.heap[k]? = some o
theorem Others.refl (w : World) : Others w w := fun _ _ h _ => h
theorem Others.trans {A B C : World} (h : Others A B) (h' : Others B C) : Others A C := fun k o a b => h' k o (h k o a b) b
theorem Others.of_below {w w' : World} (h : Below w.heap.size w w') : Others w w' := fun k o hk _ => by
 rw [h.block k (Array.getElem?_eq_some_iff.1 hk).1]; exact hk
theorem cell_not_map {w : World} {b i : Nat} {es : Array MapEntry} {n : Nat} (h : w.heap[b]? = some (.map es n)) : w.cell? ⟨b,i,none⟩ = none := by
 simp [World.cell?,h]
theorem Others.stands {w w' : World} (h : Others w w') (imm : Nat → Nat → Prop) : Stands imm w w' := fun b es k _ hb => h b _ hb rfl
theorem EntL.keep {imm imm' : Nat → Nat → Prop} {w w' : World} {es : List MapEntry} {l : List (AV × AV)} (h : EntL imm w es l) (hk : ∀ v x,Rep imm w v x → Rep imm' w' v x) : EntL imm' w' es l :=
 ⟨h.1,fun i e p h1 h2 => ⟨hk _ _ (h.2 i e p h1 h2).1,hk _ _ (h.2 i e p h1 h2).2⟩⟩
theorem ItAt.keep {imm imm' : Nat → Nat → Prop} {w w' : World} {r : Nat} {x : Option (AV × AV) × List (AV × AV)} (h : ItAt imm w r x) (hk : ∀ v x,Rep imm w v x → Rep imm' w' v x) (hi : ∀ b,imm b 0 → imm' b 0)
 (hr : ∀ m s seen c,w.heap[r]? = some (.mapIter m s seen c) → w'.heap[r]? = some (.mapIter m s seen c)) (hm : Stands imm w w') : ItAt imm' w' r x := by
 rcases h with ⟨h1,h2⟩ | ⟨m,clk,es,seen,h1,h2,h3,h4,h5,h6⟩
 ·exact .inl ⟨h1,hr _ _ _ _ h2⟩
 ·refine .inr ⟨m,clk,es,seen,hr _ _ _ _ h1,hm _ _ _ h3 h2,hi _ h3,h4,h5.keep hk,fun p hp => ?_⟩
  obtain ⟨e,s0,q1,q2,q3,q4⟩ := h6 p hp
  exact ⟨e,s0,q1,q2,hk _ _ q3,hk _ _ q4⟩
theorem mapV_id (l : List (AV × FV)) : mapV (fun x => x) l = l := by
 induction l with
 | nil => rfl
 | cons p l ih => obtain ⟨k,x⟩ := p; simp [mapV,ih]
theorem Mps.env {E E' : Env} {G : Ghost} {S S' : ASt} {w : World} (h : Mps E G S w) (hE : E'.w0 = E.w0) (hm : S'.maps = S.maps) (hi : S'.its = S.its) : Mps E' G S' w :=
 ⟨fun o l q => h.at_ o l (hm ▸ q),fun o b q => hE ▸ h.loc o b q,h.inj,fun q x p => h.its q x (hi ▸ p),fun q r p => hE ▸ h.itLoc q r p,h.itInj,h.apart⟩
structure Moves (f : FV → FV) (G G' : Ghost) (S S' : ASt) (w : World) : Prop where
 p : ∀ x,f (.p x) = .p x
 maps : ∀ o l',getM S'.maps o = some l' → ∃ l,getM S.maps o = some l ∧ l' = mapV f l ∧ ∀ b,G.mp o = some b → G'.mp o = some b
 its : ∀ q x,getM S'.its q = some x → getM S.its q = some x ∧ ∀ r,G.it q = some r → G'.it q = some r
 mp : ∀ o b,G'.mp o = some b → G.mp o = some b
 it : ∀ o b,G'.it o = some b → G.it o = some b
 immOf : ∀ b i es k,w.heap[b]? = some (.map es k) → (∃ o,G'.mp o = some b) → G'.imm b i → G.imm b i
 immTo : ∀ b,G.imm b 0 → G'.imm b 0
 loc : ∀ o b,G'.loc o = some b → G.loc o = some b ∨ ∀ es k,w.heap[b]? ≠ some (.map es k)
theorem Moves.same {G G' : Ghost} {S S' : ASt} {w : World} (h1 : S'.maps = S.maps) (h2 : S'.its = S.its) (h3 : G'.mp = G.mp) (h4 : G'.it = G.it) (h5 : G'.imm = G.imm) (h6 : G'.loc = G.loc) : Moves (fun x => x) G G' S S' w :=
 ⟨fun _ => rfl,fun o l' h => ⟨l',h1 ▸ h,(mapV_id l').symm,fun b hb => h3 ▸ hb⟩,fun q x h => ⟨h2 ▸ h,fun r hr => h4 ▸ hr⟩,fun o b h => h3 ▸ h,fun o b h => h4 ▸ h,fun _ _ _ _ _ _ h => h5 ▸ h,fun _ h => h5 ▸ h,fun _ _ h => .inl (h6 ▸ h)⟩
theorem Moves.more {G G' : Ghost} {S S' : ASt} {w : World} (h1 : S'.maps = S.maps) (h2 : S'.its = S.its) (h3 : G'.mp = G.mp) (h4 : G'.it = G.it) (h5 : ∀ b i,G'.imm b i → G.imm b i ∨ w.heap.size ≤ b) (h6 : ∀ b,G.imm b 0 → G'.imm b 0) (h7 : ∀ o b,G'.loc o = some b → G.loc o = some b ∨ ∀ es k,w.heap[b]? ≠ some (.map es k)) : Moves (fun x => x) G G' S S' w :=
 ⟨fun _ => rfl,fun o l' h => ⟨l',h1 ▸ h,(mapV_id l').symm,fun b hb => h3 ▸ hb⟩,fun q x h => ⟨h2 ▸ h,fun r hr => h4 ▸ hr⟩,fun o b h => h3 ▸ h,fun o b h => h4 ▸ h,fun b i _ _ hb _ h => (h5 b i h).elim id fun h => by
  have := (Array.getElem?_eq_some_iff.1 hb).1
  omega,h6,h7⟩
theorem Mps.move {E : Env} {G G' : Ghost} {S S' : ASt} {w w' : World} (h : Mps E G S w) (f : FV → FV) (hk : ∀ v x,RepF G w v x → RepF G' w' v (f x)) (hw : Others w w') (hm : Moves f G G' S S' w) : Mps E G' S' w' := by
 have hp : ∀ v x,Rep G.imm w v x → Rep G'.imm w' v x := fun v x hv => by
  have h1 := hk v (.p x) (.p v x hv)
  rw [hm.p] at h1
  cases h1 with
  | p _ _ h2 => exact h2
 refine ⟨fun o l' hl => ?_,fun o b hb => ?_,fun o o' b h1 h2 => h.inj o o' b (hm.mp _ _ h1) (hm.mp _ _ h2),fun q x hx => ?_,fun q r hr => ?_,fun q q' r h1 h2 => h.itInj q q' r (hm.it _ _ h1) (hm.it _ _ h2),fun o o' b h1 h2 => ?_⟩
 ·obtain ⟨l,h1,rfl,h2⟩ := hm.maps o l' hl
  obtain ⟨b,clk,es,h3,h4,h5,h6,h7⟩ := h.at_ o l h1
  refine ⟨b,clk,es,h2 b h3,hw _ _ h4 rfl,h5,by rw [mapV_eq,List.length_map]; exact h6,fun i e p he hpp => ?_⟩
  rw [mapV_eq,List.getElem?_map] at hpp
  cases hq : l[i]? with
  | none => simp [hq] at hpp
  | some q =>
    simp only [hq,Option.map_some,Option.some.injEq] at hpp
    subst hpp
    obtain ⟨h8,h9⟩ := h7 i e q he hq
    exact ⟨hp _ _ h8,hk _ _ h9⟩
 ·obtain ⟨h1,h2,es,clk,h3⟩ := h.loc o b (hm.mp _ _ hb)
  exact ⟨h1,fun i hi => h2 i (hm.immOf b i es clk h3 ⟨o,hb⟩ hi),es,clk,hw _ _ h3 rfl⟩
 ·obtain ⟨h1,h2⟩ := hm.its q x hx
  obtain ⟨r,h3,h4⟩ := h.its q x h1
  exact ⟨r,h2 r h3,h4.keep hp hm.immTo (fun m s seen c h => hw _ _ h rfl) (hw.stands _)⟩
 ·obtain ⟨h1,m,s,seen,c,h2⟩ := h.itLoc q r (hm.it _ _ hr)
  exact ⟨h1,m,s,seen,c,hw _ _ h2 rfl⟩
 ·rcases hm.loc o' b h2 with h3 | h3
  ·exact h.apart o o' b (hm.mp _ _ h1) h3
  ·obtain ⟨-,-,es,k,h4⟩ := h.loc o b (hm.mp _ _ h1)
   exact h3 es k h4
theorem GlobOK.of {G G' : Ghost} {w w' : World} (h : GlobOK G.imm w) (hk : ∀ v x,RepF G w v x → RepF G' w' v x) : GlobOK G'.imm w' := fun g xs hg => by
 have key : ∀ v x,Rep G.imm w v x → Rep G'.imm w' v x := fun v x hv => by
  have h1 := hk v (.p x) (.p v x hv)
  cases h1 with
  | p _ _ h2 => exact h2
 exact key _ _ (h g xs hg)
theorem Ext.move {E : Env} {G G' : Ghost} {S S' : ASt} {a a' : Act} {w w' : World} (h : Ext E G S a w) (f : FV → FV) (hd : a'.defers = a.defers) (hp : S'.pend = S.pend) (hs : S'.susp = frMap f S.susp)
 (hk : ∀ v x,RepF G w v x → RepF G' w' v (f x)) (hw : Others w w') (hmv : Moves f G G' S S' w) (hy : ∀ l k,G'.yl l = some k → G.yl l = some k := by intro _ _ h; exact h) : Ext E G' S' a' w' := by
 refine ⟨h.mps.move f hk hw hmv,by rw [hs,frMap_eq,List.length_map]; exact h.suspLen,fun i vals fr h1 h2 => ?_,by rw [hp]; exact h.pendLen,fun i k r st h1 h2 => ?_,h.loopInj,fun i k r h1 k' h2 => h.yl i k r h1 k' (hy _ _ h2),h.rnd,?_,fun g xs hg => ?_⟩
 ·rw [hs,frMap_eq,List.getElem?_map] at h2
  cases hx : S.susp[i]? with
  | none => simp [hx] at h2
  | some fr0 =>
    simp [hx] at h2
    subst h2
    obtain ⟨h3,h4⟩ := h.susp i vals fr0 h1 hx
    exact ⟨h3,fun j hj => hk _ _ (h4 j hj)⟩
 ·obtain ⟨h3,h4⟩ := h.loops i k r st h1 (hp ▸ h2)
  exact ⟨h3,hw _ _ h4 rfl⟩
 ·obtain ⟨ms,h1,h2,h3⟩ := h.marks
  exact ⟨ms,hd.trans h1,h2,fun r hr => ⟨(h3 r hr).1,hw _ _ (h3 r hr).2 rfl⟩⟩
 ·have key : ∀ v x,Rep G.imm w v x → Rep G'.imm w' v x := fun v x hv => by
   have h1 := hk v (.p x) (.p v x hv)
   rw [hmv.p] at h1
   cases h1 with
   | p _ _ h2 => exact h2
  exact key _ _ (h.glob g xs hg)
theorem frMap_id (rs : List Fr) : frMap (fun x => x) rs = rs := by
 induction rs with
 | nil => rfl
 | cons r rs ih => simp [frMap,ih,Fr.map]
theorem Ext.keep {E : Env} {G G' : Ghost} {S S' : ASt} {a a' : Act} {w w' : World} (h : Ext E G S a w) (hd : a'.defers = a.defers) (hp : S'.pend = S.pend) (hs : S'.susp = S.susp)
 (hk : ∀ v x,RepF G w v x → RepF G' w' v x) (hw : Others w w') (hy : ∀ l k,G'.yl l = some k → G.yl l = some k := by intro _ _ h; exact h)
 (hmv : Moves (fun x => x) G G' S S' w := by exact Moves.same rfl rfl rfl rfl rfl rfl) : Ext E G' S' a' w' :=
 h.move (fun x => x) hd hp (by rw [frMap_id]; exact hs) hk hw hmv hy
structure Bld (E : Env) (G : Ghost) (S : ASt) (w : World) : Prop where
 at_ : ∀ o bs,getB S.blds o = some bs → getObj S.objs o = none ∧ ∃ b,G.loc o = some b ∧ BldAt E.C w b (G.row o) bs
 row : ∀ o r,G.row o = some r → E.w0.heap.size ≤ r ∧ r < w.heap.size ∧ (∀ i,¬ G.imm r i) ∧ (∀ o',G.loc o' ≠ some r) ∧ (∀ t q,G.tail t ≠ some (r,q)) ∧ ∀ o',G.row o' = some r → o' = o
 rowC : ∀ o r,G.row o = some r → ∃ cs T fr,w.heap[r]? = some (.cells cs T fr)
theorem BldAt.keep {C : Ctx} {w w' : World} {b : Nat} {row : Option Nat} {bs : List UInt8} (h : BldAt C w b row bs) (hb : w'.heap[b]? = w.heap[b]?) (hr : ∀ r,row = some r → w'.heap[r]? = w.heap[r]?) : BldAt C w' b row bs := by
 obtain ⟨p,v,h1,h2,h3⟩ := h
 refine ⟨p,v,h1,hb.trans h2,?_⟩
 cases row with
 | none => exact h3
 | some r =>
   obtain ⟨hne,cap,cur,g1,g2,g3⟩ := h3
   exact ⟨hne,cap,cur,g1,(hr r rfl).trans g2,g3⟩
theorem Bld.keep {E E' : Env} {G G' : Ghost} {S S' : ASt} {w w' : World} (h : Bld E G S w) (hC : E'.C = E.C) (hw0 : E'.w0 = E.w0)
 (hS : ∀ o bs,getB S'.blds o = some bs → getB S.blds o = some bs ∧ G'.loc o = G.loc o ∧ G'.row o = G.row o) (hO : ∀ o bs,getB S'.blds o = some bs → getObj S.objs o = none → getObj S'.objs o = none)
 (hrow : ∀ o r,G'.row o = some r → G.row o = some r) (hsz : w.heap.size ≤ w'.heap.size)
 (hb : ∀ o bs b,getB S.blds o = some bs → getObj S.objs o = none → G.loc o = some b → w'.heap[b]? = w.heap[b]?) (hr : ∀ o r,G.row o = some r → w'.heap[r]? = w.heap[r]?)
 (himm : ∀ o r i,G.row o = some r → G'.imm r i → G.imm r i) (hloc : ∀ o r o',G.row o = some r → G'.loc o' = some r → G.loc o' = some r) (htail : ∀ o r t q,G.row o = some r → G'.tail t = some (r,q) → ∃ t' q',G.tail t' = some (r,q')) : Bld E' G' S' w' := by
 refine ⟨fun o bs hq => ?_,fun o r hq => ?_,fun o r hq => by rw [hr o r (hrow o r hq)]; exact h.rowC o r (hrow o r hq)⟩
 ·obtain ⟨h1,h2,h3⟩ := hS o bs hq
  obtain ⟨h4,b,h5,h6⟩ := h.at_ o bs h1
  refine ⟨hO o bs hq h4,b,h2.trans h5,?_⟩
  rw [h3,hC]
  exact h6.keep (hb o bs b h1 h4 h5) (fun r e => hr o r e)
 ·have h0 := hrow o r hq
  obtain ⟨h1,h2,h3,h4,h5,h6⟩ := h.row o r h0
  refine ⟨hw0 ▸ h1,Nat.lt_of_lt_of_le h2 hsz,fun i hi => h3 i (himm o r i h0 hi),fun o' e => h4 o' (hloc o r o' h0 e),fun t q e => ?_,fun o' e => h6 o' (hrow o' r e)⟩
  obtain ⟨t',q',e'⟩ := htail o r t q h0 e
  exact h5 t' q' e'
theorem Bld.same {E E' : Env} {G : Ghost} {S S' : ASt} {w w' : World} (h : Bld E G S w) (hC : E'.C = E.C) (hw0 : E'.w0 = E.w0) (hS : S'.blds = S.blds) (hO : S'.objs = S.objs) (hsz : w.heap.size ≤ w'.heap.size)
 (hb : ∀ o bs b,getB S.blds o = some bs → getObj S.objs o = none → G.loc o = some b → w'.heap[b]? = w.heap[b]?) (hr : ∀ o r,G.row o = some r → w'.heap[r]? = w.heap[r]?) : Bld E' G S' w' :=
 h.keep hC hw0 (fun o bs q => ⟨hS ▸ q,rfl,rfl⟩) (fun o _ _ q => hO ▸ q) (fun _ _ e => e) hsz hb hr (fun _ _ _ _ e => e) (fun _ _ _ _ e => e) (fun _ _ t q _ e => ⟨t,q,e⟩)
structure SimG (E : Env) (G : Ghost) (S : ASt) (a : Act) (w : World) : Prop where
 kept : Kept E.own E.w0 w
 size : a.tmps.size = S.n
 ext' : Ext E G S a w
 bld : Bld E G S w
 immB : ∀ b o,G.imm b o → E.imm0 b o ∨ E.w0.heap.size ≤ b
 immLt : ∀ b o,G.imm b o → b < w.heap.size
 tmps : ∀ i,i < S.n → RepF G w (a.tmps.getD i undef) (S.tmps i)
 objs : ∀ o cells,getObj S.objs o = some cells → ∃ b,G.loc o = some b ∧
  ∀ (i : Nat) (x : FV),cells[i]? = some x → ∃ c,w.cell? ⟨b,i,none⟩ = some c ∧ RepF G w c x
 locs : ∀ o b,G.loc o = some b → b < w.heap.size ∧ E.mine o b ∧ ∀ i,¬ G.imm b i ∧ w.frozen? ⟨b,i,none⟩ = false
 locInj : ∀ o o' b,G.loc o = some b → G.loc o' = some b → o = o'
 locTail : ∀ o t b r,G.loc o = some b → G.tail t = some (b,r) → t = o ∧ getB S.blds o = none ∧ ∀ cells,getObj S.objs o = some cells → cells.length = r.1
 tails : ∀ t b s e T,G.tail t = some (b,s,e,T) → b < w.heap.size ∧ E.w0.heap.size ≤ b ∧
  (∃ cs fr,w.heap[b]? = some (.cells cs T fr)) ∧
  ∀ i,s ≤ i → i < e → (∃ c,w.cell? ⟨b,i,none⟩ = some c) ∧ w.frozen? ⟨b,i,none⟩ = false ∧ ¬ G.imm b i
 tailInj : ∀ t t' b r r',G.tail t = some (b,r) → G.tail t' = some (b,r') → t = t'
def Sim (E : Env) (S : ASt) (a : Act) (w : World) : Prop := ∃ G,SimG E G S a w
theorem Sim.weaken {E : Env} {S S' : ASt} {a : Act} {w : World} (h : Sim E S a w) (hw : Weaken S S') : Sim E S' a w := by
 obtain ⟨G,h⟩ := h
 refine ⟨G,h.kept,h.size.trans hw.n.symm,⟨⟨fun o l' hl => ?_,h.ext'.mps.loc,h.ext'.mps.inj,fun q x hx => h.ext'.mps.its q x (hw.its q x hx),h.ext'.mps.itLoc,h.ext'.mps.itInj,h.ext'.mps.apart⟩,hw.susp.1.trans h.ext'.suspLen,fun i vals fr h1 h2 => ?_,by rw [hw.pend]; exact h.ext'.pendLen,fun i k r st h1 h2 => h.ext'.loops i k r st h1 (hw.pend ▸ h2),h.ext'.loopInj,h.ext'.yl,h.ext'.rnd,h.ext'.marks,h.ext'.glob⟩,⟨fun o bs q => ⟨(hw.blds o bs q).2 (h.bld.at_ o bs (hw.blds o bs q).1).1,(h.bld.at_ o bs (hw.blds o bs q).1).2⟩,h.bld.row,h.bld.rowC⟩,h.immB,h.immLt,fun i hi => hw.tmps i _ _ _ (h.tmps i (hw.n ▸ hi)),fun o ys ho => ?_,h.locs,h.locInj,fun o t b r h1 h2 => ?_,h.tails,h.tailInj⟩
 ·obtain ⟨l,h1,h2,h3⟩ := hw.maps o l' hl
  obtain ⟨b,clk,es,h4,h5,h6,h7,h8⟩ := h.ext'.mps.at_ o l h1
  refine ⟨b,clk,es,h4,h5,h6,h7.trans h2,fun i e p he hp => ?_⟩
  have hil : i < l.length := by rw [h2]; exact (List.getElem?_eq_some_iff.1 hp).1
  obtain ⟨h9,h10⟩ := h3 i _ p (List.getElem?_eq_getElem hil) hp
  obtain ⟨h11,h12⟩ := h8 i e _ he (List.getElem?_eq_getElem hil)
  exact ⟨h9 ▸ h11,h10 _ _ _ h12⟩
 ·have hl : i < S.susp.length := by
   rw [← hw.susp.1]
   exact (List.getElem?_eq_some_iff.1 h2).1
  obtain ⟨h3,h4,h5⟩ := hw.susp.2 i _ fr (List.getElem?_eq_getElem hl) h2
  obtain ⟨h6,h7⟩ := h.ext'.susp i vals _ h1 (List.getElem?_eq_getElem hl)
  exact ⟨h6.trans h3.symm,fun j hj => h5 j _ _ _ (h7 j (h3 ▸ hj))⟩
 ·obtain ⟨xs,h1,h2,h3⟩ := hw.objs o ys ho
  obtain ⟨b,h4,h5⟩ := h.objs o xs h1
  refine ⟨b,h4,fun i y hy => ?_⟩
  have hl : i < xs.length := by
   rw [h2]
   exact (List.getElem?_eq_some_iff.1 hy).1
  obtain ⟨c,h6,h7⟩ := h5 i _ (List.getElem?_eq_getElem hl)
  exact ⟨c,h6,h3 i _ _ (List.getElem?_eq_getElem hl) hy _ _ _ h7⟩
 ·obtain ⟨h3,h4,h5⟩ := h.locTail o t b r h1 h2
  refine ⟨h3,?_,fun ys ho => ?_⟩
  ·cases hb : getB S'.blds o with
   | none => rfl
   | some bs => rw [(hw.blds o bs hb).1] at h4; cases h4
  ·obtain ⟨xs,h6,h7,-⟩ := hw.objs o ys ho
   rw [← h7]; exact h5 xs h6
theorem SimG.J {E : Env} {G : Ghost} {S : ASt} {a : Act} {w : World} (h : SimG E G S a w) : (E.C.J w ∧ GlobOK G.imm w) ∧ E.C.nglob ≤ w.heap.size :=
 ⟨⟨E.C.stable E.w0 w (fun k hk => h.kept.block k (Nat.lt_of_lt_of_le hk E.hn) fun hm => by have := (E.hown k hm).1; omega) E.hJ,h.ext'.glob⟩,Nat.le_trans E.hn h.kept.size⟩
theorem RepF.get {E : Env} {G : Ghost} {S : ASt} {a : Act} {w : World} (h : SimG E G S a w) (t : Nat) : RepF G w (a.tmps.getD t undef) (S.get t) := by
 unfold ASt.get
 split
 ·rename_i hb
  exact h.tmps t (by simpa using hb)
 ·exact .junk _
theorem rep_str_of (imm : Nat → Nat → Prop) (w : World) (s : ByteArray) : Rep imm w (.string s) (.str s.data.toList) := by
 have := Rep.str (imm := imm) (w := w) s.data.toList
 simpa using this
theorem repF_ofVal1 (G : Ghost) (w : World) (v : Value) : RepF G w v (FV.ofVal1 v) := by
 unfold FV.ofVal1
 split
 ·exact .p _ _ (.bool _)
 ·exact .p _ _ (.int _ _)
 ·exact .p _ _ (rep_str_of _ _ _)
 ·exact .p _ _ .nilp
 ·exact .p _ _ .nilf
 ·exact .p _ _ .nili
 ·exact .p _ _ .nilm
 ·exact .full [] none (.sl0 none 0)
 ·exact .junk _
theorem repF_ofVal (G : Ghost) (w : World) (v : Value) : RepF G w v (FV.ofVal v) := by
 unfold FV.ofVal
 split
 ·rename_i cs
  have := RepF.agg (G := G) (w := w) cs.toList (cs.toList.map FV.ofVal1) (by simp) (fun i c x h1 h2 => by
   rw [List.getElem?_map,h1] at h2
   simp only [Option.map_some,Option.some.injEq] at h2
   subst h2
   exact repF_ofVal1 _ _ _)
  simpa using this
 ·exact .p _ _ (by simpa using Rep.tup (imm := G.imm) (w := w) [] [] rfl (by simp))
 ·exact repF_ofVal1 _ _ _
theorem RepF.val {E : Env} {G : Ghost} {S : ASt} {a : Act} {w : World} (h : SimG E G S a w) (x : Operand) : RepF G w (a.eval x) (S.val x) := by
 cases x with
 | tmp t => exact RepF.get h t
 | const v => exact repF_ofVal _ _ _
 | func f => exact .p _ _ (by simpa [Act.eval] using Rep.fn (imm := G.imm) (w := w) (.func f) [] [] [] [] rfl rfl (by simp) (by simp))
 | global g =>
   simp only [ASt.val]
   split
   ·rename_i xs hg
    exact .p _ _ (h.ext'.glob g xs hg)
   ·exact .junk _
theorem SimG.put {E : Env} {G : Ghost} {S : ASt} {a : Act} {w : World} (h : SimG E G S a w) (dst : Option Nat) {v : Value} {x : FV} (hv : RepF G w v x) : SimG E G (S.put dst x) (a.put dst v) w := by
 cases dst with
 | none => exact h
 | some d =>
   refine ⟨h.kept,by simpa [Act.put,ASt.put] using h.size,h.ext'.keep rfl rfl rfl (fun _ _ h => h) (.refl _),⟨h.bld.at_,h.bld.row,h.bld.rowC⟩,h.immB,h.immLt,fun i hi => ?_,h.objs,h.locs,h.locInj,h.locTail,h.tails,h.tailInj⟩
   have hi' : i < a.tmps.size := by rw [h.size]; exact hi
   simp only [ASt.put,Act.put]
   by_cases hd : i = d
   ·subst hd
    have : Nat.beq i i = true := by simp
    rw [this]
    simpa [Array.getD,hi'] using hv
   ·have : Nat.beq i d = false := by
     cases hb : Nat.beq i d
     ·rfl
     ·exact absurd (Nat.eq_of_beq_eq_true hb) hd
    rw [this]
    have := h.tmps i hi
    simpa [Array.getD,hi',Array.getElem_setIfInBounds,Ne.symm hd] using this
theorem SimG.extN {E : Env} {G : Ghost} {S : ASt} {a : Act} {w w' : World} (h : SimG E G S a w) (hb : Below w.heap.size w w') (N : Nat → Nat → Prop) :
 SimG E { G with imm := fun b o => G.imm b o ∨ (w.heap.size ≤ b ∧ b < w'.heap.size ∧ N b o) } S a w' := by
 have hcell : ∀ b i,b < w.heap.size → w'.cell? ⟨b,i,none⟩ = w.cell? ⟨b,i,none⟩ := fun b i hl => hb.cell (p := ⟨b,i,none⟩) hl
 have hfroz : ∀ b i,b < w.heap.size → w'.frozen? ⟨b,i,none⟩ = w.frozen? ⟨b,i,none⟩ := fun b i hl => hb.frozen (p := ⟨b,i,none⟩) hl
 have keep : ∀ v x,RepF G w v x → RepF { G with imm := fun b o => G.imm b o ∨ (w.heap.size ≤ b ∧ b < w'.heap.size ∧ N b o) } w' v x := fun v x hv =>
  hv.keep (fun b o hi => .inl hi) (fun b o c hi hc => by rw [hcell b o (h.immLt b o hi)]; exact hc) ((Others.of_below hb).stands _) (fun _ _ e => e) (fun _ _ e => e)
 refine ⟨⟨hb.os.trans h.kept.os,hb.tape.trans h.kept.tape,hb.output.trans h.kept.output,Nat.le_trans h.kept.size hb.size,fun k hk hk' => (hb.block k (Nat.lt_of_lt_of_le hk h.kept.size)).trans (h.kept.block k hk hk'),fun k cs T fr hk q => let ⟨cs',q1,q2⟩ := h.kept.shape k cs T fr hk q; ⟨cs',(hb.block k (Array.getElem?_eq_some_iff.1 q1).1).trans q1,q2⟩⟩,h.size,
  h.ext'.keep rfl rfl rfl keep (.of_below hb) (hmv := .more rfl rfl rfl rfl (fun b i hi => hi.imp id fun hi => hi.1) (fun b hi => .inl hi) fun _ _ h => .inl h),?_,?_,?_,fun i hi => keep _ _ (h.tmps i hi),?_,?_,h.locInj,h.locTail,?_,h.tailInj⟩
 ·exact h.bld.keep rfl rfl (fun o bs q => ⟨q,rfl,rfl⟩) (fun _ _ _ q => q) (fun _ _ e => e) hb.size (fun o bs b q _ e => hb.block b (h.locs o b e).1) (fun o r e => hb.block r (h.bld.row o r e).2.1)
   (fun o r i e hi => hi.elim id fun hi => absurd (h.bld.row o r e).2.1 (by omega)) (fun _ _ _ _ e => e) (fun _ _ t q _ e => ⟨t,q,e⟩)
 ·rintro b o (hi | ⟨hi,_⟩)
  ·exact h.immB b o hi
  ·exact .inr (Nat.le_trans h.kept.size hi)
 ·rintro b o (hi | ⟨_,hi,_⟩)
  ·exact Nat.lt_of_lt_of_le (h.immLt b o hi) hb.size
  ·exact hi
 ·intro o cells ho
  obtain ⟨b,h1,h2⟩ := h.objs o cells ho
  refine ⟨b,h1,fun i x hx => ?_⟩
  obtain ⟨c,h3,h4⟩ := h2 i x hx
  exact ⟨c,by rw [hcell b i (h.locs o b h1).1]; exact h3,keep _ _ h4⟩
 ·intro o b ho
  obtain ⟨h1,h2,h3⟩ := h.locs o b ho
  refine ⟨Nat.lt_of_lt_of_le h1 hb.size,h2,fun i => ⟨?_,by rw [hfroz b i h1]; exact (h3 i).2⟩⟩
  rintro (hi | ⟨hi,_⟩)
  ·exact (h3 i).1 hi
  ·omega
 ·intro t b s e T ht
  obtain ⟨h1,h2,hty,h3⟩ := h.tails t b s e T ht
  refine ⟨Nat.lt_of_lt_of_le h1 hb.size,h2,by rw [hb.block b h1]; exact hty,fun i hi hi' => ?_⟩
  obtain ⟨⟨c,h4⟩,h5,h6⟩ := h3 i hi hi'
  refine ⟨⟨c,by rw [hcell b i h1]; exact h4⟩,by rw [hfroz b i h1]; exact h5,?_⟩
  rintro (h7 | ⟨h7,_⟩)
  ·exact h6 h7
  ·omega
theorem SimG.ext {E : Env} {G : Ghost} {S : ASt} {a : Act} {w w' : World} (h : SimG E G S a w) (hb : Below w.heap.size w w') :
 SimG E { G with imm := fun b o => G.imm b o ∨ (w.heap.size ≤ b ∧ b < w'.heap.size) } S a w' := by
 have := h.extN hb fun _ _ => True
 simpa using this
theorem stands_alloc (imm : Nat → Nat → Prop) (w : World) (o : Obj) : Stands imm w (w.alloc o) := (Others.of_below ((Below.refl _ _).alloc (Nat.le_refl _) _)).stands _
theorem SimG.drew {E : Env} {G : Ghost} {S : ASt} {a : Act} {w : World} (h : SimG E G S a w) : SimG E G S a { w with drawn := w.drawn + 1 } := by
 have keep : ∀ v x,RepF G w v x → RepF G { w with drawn := w.drawn + 1 } v x := fun v x hv => hv.keep (fun _ _ hi => hi) (fun _ _ _ _ hc => hc) (fun _ _ _ _ h => h) (fun _ _ e => e) (fun _ _ e => e)
 refine ⟨⟨h.kept.os,h.kept.tape,h.kept.output,h.kept.size,h.kept.block,h.kept.shape⟩,h.size,h.ext'.keep rfl rfl rfl keep (.refl _),h.bld.same rfl rfl rfl rfl (Nat.le_refl _) (fun _ _ _ _ _ _ => rfl) (fun _ _ _ => rfl),h.immB,h.immLt,fun i hi => keep _ _ (h.tmps i hi),fun o cells ho => ?_,h.locs,h.locInj,h.locTail,h.tails,h.tailInj⟩
 obtain ⟨b,h1,h2⟩ := h.objs o cells ho
 exact ⟨b,h1,fun i x hx => let ⟨c,h3,h4⟩ := h2 i x hx; ⟨c,h3,keep _ _ h4⟩⟩
end Qv

end

section
namespace Qv
open Go Go.RowKit
def AV.cell : AV → Value
 | .bool b => .bool b
 | .int k n => .int k n
 | .str s => .string ⟨s.toArray⟩
 | _ => undef
def tv (agg : Bool) (xs : List AV) : Value := match agg with
 | true => .agg (xs.map AV.cell).toArray
 | false => (xs.map AV.cell).headD undef
def aggT (P : Program) (t : TypeId) : Bool := match P.underlying t with
 | some (.struct _) => true
 | some (.array _ _) => true
 | _ => false
theorem run_isAgg' {P : Program} {w : World} {t : TypeId} {d : TypeDesc} (h : P.underlying t = some d) : (Go.isAgg t).run P w = .ok (aggT P t) w := by
 simp only [Go.isAgg,Sem.run_bind,run_underlying h,Result.andThen_ok,aggT,h]
 cases d <;> rfl
theorem sameK_refl (k : IntKind) : sameK k k = true := by simp [sameK]
theorem fits_len {L : List Leaf} {xs : List AV} (h : fitsL L xs = true) : xs.length = L.length := by
 induction L generalizing xs with
 | nil => cases xs <;> simp_all [fitsL]
 | cons l L ih =>
   cases xs with
   | nil => simp [fitsL] at h
   | cons x xs =>
     simp only [fitsL] at h
     split at h
     ·simp [ih h]
     ·cases h
theorem fits_app {L1 L2 : List Leaf} {xs : List AV} (h : fitsL (L1 ++ L2) xs = true) : ∃ x1 x2,xs = x1 ++ x2 ∧ fitsL L1 x1 = true ∧ fitsL L2 x2 = true := by
 induction L1 generalizing xs with
 | nil => exact ⟨[],xs,rfl,rfl,h⟩
 | cons l L1 ih =>
   cases xs with
   | nil => simp [fitsL] at h
   | cons x xs =>
     simp only [List.cons_append,fitsL] at h
     split at h
     ·rename_i hx
      obtain ⟨x1,x2,rfl,h1,h2⟩ := ih h
      exact ⟨x :: x1,x2,rfl,by simp [fitsL,hx,h1],h2⟩
     ·cases h
theorem sameAs_app {L1 : List Leaf} {x1 y1 x2 y2 : List AV} (hx : fitsL L1 x1 = true) (hy : fitsL L1 y1 = true) : sameAs (x1 ++ x2) (y1 ++ y2) = (sameAs x1 y1 && sameAs x2 y2) := by
 induction L1 generalizing x1 y1 with
 | nil =>
   cases x1 <;> cases y1 <;> simp_all [fitsL,sameAs]
 | cons l L1 ih =>
   cases x1 with
   | nil => simp [fitsL] at hx
   | cons x x1 =>
     cases y1 with
     | nil => simp [fitsL] at hy
     | cons y y1 =>
       simp only [fitsL] at hx hy
       split at hx
       ·split at hy
        ·simp only [List.cons_append,sameAs,ih hx hy,Bool.and_assoc]
        ·cases hy
       ·cases hx
theorem eq_leaf {P : Program} {w : World} {d : Nat} {t : TypeId} {l : Leaf} {x y : AV} (hu : (P.underlying t = some .bool ∧ l = .bool) ∨ (∃ k,P.underlying t = some (.int k) ∧ l = .int k) ∨ (P.underlying t = some .string ∧ l = .str))
 (hx : l.fits x = true) (hy : l.fits y = true) : (Op.equalIn (d + 1) t x.cell y.cell).run P w = .ok (sameA1 x y) w := by
 rcases hu with ⟨hu,rfl⟩ | ⟨k,hu,rfl⟩ | ⟨hu,rfl⟩
 ·cases x <;> simp [Leaf.fits] at hx
  cases y <;> simp [Leaf.fits] at hy
  simp [AV.cell,Op.equalIn,run_underlying hu,sameA1]
 ·cases x <;> simp [Leaf.fits] at hx
  cases y <;> simp [Leaf.fits] at hy
  obtain rfl := sameK_eq hx
  obtain rfl := sameK_eq hy
  simp [AV.cell,Op.equalIn,run_underlying hu,sameA1,sameK_refl]
 ·cases x <;> simp [Leaf.fits] at hx
  cases y <;> simp [Leaf.fits] at hy
  rename_i a b
  simp only [AV.cell,Op.equalIn,Sem.run_bind,run_underlying hu,Result.andThen_ok,Sem.run_pure,sameA1,beq_toListBytes]
  simp [ByteArray.toList_eq]
theorem get_mid {A x : List AV} {B : List AV} {off : Nat} (hA : A.length = off) (a : AV) : (((A ++ (a :: B)).map AV.cell).toArray)[off]? = some a.cell := by
 subst hA
 simp
theorem ext_mid {A x B : List AV} {off n : Nat} (hA : A.length = off) (hx : x.length = n) : ((A ++ (x ++ B)).map AV.cell).toArray.extract off (off + n) = (x.map AV.cell).toArray := by
 subst hA hx
 apply Array.ext'
 simp
theorem run_part_L {P : Program} {w : World} {e : TypeId} {d : TypeDesc} {L : List Leaf} {A x B : List AV} {off : Nat} (hu : P.underlying e = some d) (hagg : aggT P e = true → P.cellsOf e = L.length ∧ ∃ i,P.info? e = some i)
 (h1 : aggT P e = false → L.length = 1) (hA : A.length = off) (hx : fitsL L x = true) : (part e ((A ++ (x ++ B)).map AV.cell).toArray off).run P w = .ok (tv (aggT P e) x) w := by
 have hl := fits_len hx
 simp only [part,Sem.run_bind,run_isAgg' hu,Result.andThen_ok]
 cases hq : aggT P e with
 | true =>
   obtain ⟨h2,i,hi⟩ := hagg hq
   simp only [if_true,Sem.run_bind,run_sizeOf w hi,Result.andThen_ok,Sem.run_pure,h2,tv,← hl,ext_mid hA rfl]
 | false =>
   have h3 := h1 hq
   match x,hl.trans h3 with
   | [a],_ =>
     simp only [Bool.false_eq_true,if_false,tv]
     rw [show A ++ ([a] ++ B) = A ++ (a :: B) from rfl,get_mid hA (x := [])]
     simp
theorem leaves_inv {P : Program} {d : Nat} {t : TypeId} {L : List Leaf} (h : leavesOf P (d + 1) t = some L) :
 (∃ l,L = [l] ∧ aggT P t = false ∧ ((P.underlying t = some .bool ∧ l = .bool) ∨ (∃ k,P.underlying t = some (.int k) ∧ l = .int k) ∨ (P.underlying t = some .string ∧ l = .str))) ∨
 (P.cellsOf t = L.length ∧ aggT P t = true ∧ ((∃ fs,P.underlying t = some (.struct fs) ∧ P.stoodInHeld t = false ∧ leavesFs P d 0 fs.toList = some L) ∨
  ∃ n e l,P.underlying t = some (.array n e) ∧ leavesOf P d e = some l ∧ P.cellsOf e = l.length ∧ L = (List.replicate n l).flatten)) := by
 have chk : ∀ {o : Option (List Leaf)},chkL P t o = some L → o = some L ∧ P.cellsOf t = L.length := fun {o} h => by
  unfold chkL at h
  split at h
  ·cases h
  ·split at h
   ·rename_i hb
    obtain rfl := Option.some.inj h
    exact ⟨rfl,Nat.eq_of_beq_eq_true hb⟩
   ·cases h
 unfold leavesOf at h
 split at h
 ·rename_i hu; obtain rfl := Option.some.inj h; exact .inl ⟨_,rfl,by simp [aggT,hu],.inl ⟨hu,rfl⟩⟩
 ·rename_i k hu; obtain rfl := Option.some.inj h; exact .inl ⟨_,rfl,by simp [aggT,hu],.inr (.inl ⟨k,hu,rfl⟩)⟩
 ·rename_i hu; obtain rfl := Option.some.inj h; exact .inl ⟨_,rfl,by simp [aggT,hu],.inr (.inr ⟨hu,rfl⟩)⟩
 ·rename_i fs hu
  split at h
  ·cases h
  ·rename_i hs
   obtain ⟨h1,h2⟩ := chk h
   exact .inr ⟨h2,by simp [aggT,hu],.inl ⟨fs,hu,hs,h1⟩⟩
 ·rename_i n e hu
  split at h
  ·cases h
  ·rename_i l hl
   split at h
   ·rename_i hb
    obtain ⟨h1,h2⟩ := chk h
    obtain h1 := Option.some.inj h1
    exact .inr ⟨h2,by simp [aggT,hu],.inr ⟨n,e,l,hu,hl,Nat.eq_of_beq_eq_true hb,h1.symm⟩⟩
   ·cases h
 ·cases h
theorem leaves_und {P : Program} {d : Nat} {t : TypeId} {L : List Leaf} (h : leavesOf P d t = some L) : ∃ q i,P.underlying t = some q ∧ P.info? t = some i := by
 cases d with
 | zero => simp [leavesOf] at h
 | succ d =>
   have : ∃ q,P.underlying t = some q := by
    rcases leaves_inv h with ⟨l,-,-,⟨h,-⟩ | ⟨k,h,-⟩ | ⟨h,-⟩⟩ | ⟨-,-,⟨fs,h,-⟩ | ⟨n,e,l,h,-⟩⟩
    all_goals exact ⟨_,h⟩
   obtain ⟨q,hq⟩ := this
   obtain ⟨i,hi⟩ := info_of_underlying hq
   exact ⟨q,i,hq,hi⟩
theorem part_leaves {P : Program} {w : World} {d : Nat} {e : TypeId} {L : List Leaf} {A x B : List AV} {off : Nat} (h : leavesOf P d e = some L) (hA : A.length = off) (hx : fitsL L x = true) :
 (part e ((A ++ (x ++ B)).map AV.cell).toArray off).run P w = .ok (tv (aggT P e) x) w := by
 obtain ⟨q,i,hq,hi⟩ := leaves_und h
 cases d with
 | zero => simp [leavesOf] at h
 | succ d =>
   refine run_part_L hq (fun ha => ⟨?_,i,hi⟩) (fun ha => ?_) hA hx
   ·rcases leaves_inv h with ⟨l,-,h2,-⟩ | ⟨h2,-,-⟩
    ·rw [ha] at h2; cases h2
    ·exact h2
   ·rcases leaves_inv h with ⟨l,rfl,-,-⟩ | ⟨-,h2,-⟩
    ·rfl
    ·rw [ha] at h2; cases h2
theorem eq_leaves {P : Program} : ∀ (d : Nat),
 (∀ (t : TypeId) (L : List Leaf) (D : Nat) (w : World) (xs ys : List AV),d ≤ D → leavesOf P d t = some L → fitsL L xs = true → fitsL L ys = true → (Op.equalIn D t (tv (aggT P t) xs) (tv (aggT P t) ys)).run P w = .ok (sameAs xs ys) w) ∧
 (∀ (fs : List Field) (off : Nat) (L : List Leaf) (D : Nat) (w : World) (A A' xs ys : List AV),d ≤ D → leavesFs P d off fs = some L → A.length = off → A'.length = off → fitsL L xs = true → fitsL L ys = true →
  (Op.eqFields D ((A ++ xs).map AV.cell).toArray ((A' ++ ys).map AV.cell).toArray fs).run P w = .ok (sameAs xs ys) w)
 | 0 => ⟨fun t L D w xs ys _ h => by simp [leavesOf] at h,fun fs off L D w A A' xs ys _ h => by simp [leavesFs] at h⟩
 | d + 1 => by
   obtain ⟨ih1,ih2⟩ := eq_leaves d
   constructor
   ·intro t L D w xs ys hD h hx hy
    obtain ⟨D,rfl⟩ : ∃ D',D = D' + 1 := ⟨D - 1,by omega⟩
    rcases leaves_inv h with ⟨l,rfl,ha,hu⟩ | ⟨hc,ha,⟨fs,hu,hs,hf⟩ | ⟨n,e,l,hu,hl,hce,rfl⟩⟩
    ·rw [ha]
     match xs,ys,fits_len hx,fits_len hy with
     | [x],[y],_,_ =>
       have hx' : l.fits x = true := by
        simp only [fitsL] at hx; split at hx
        ·assumption
        ·cases hx
       have hy' : l.fits y = true := by
        simp only [fitsL] at hy; split at hy
        ·assumption
        ·cases hy
       have := eq_leaf (w := w) (d := D) hu hx' hy'
       simpa [tv,sameAs] using this
    ·rw [ha]
     have hfs : P.fieldsOf t = fs := by simp [Program.fieldsOf,hu]
     simp only [tv]
     rw [run_equalIn_struct w D t _ _ (by rw [hfs]; exact hu) hs,hfs]
     exact ih2 fs.toList 0 L D w [] [] xs ys (by omega) hf rfl rfl hx hy
    ·rw [ha]
     obtain ⟨q,i,hq,hi⟩ := leaves_und hl
     simp only [tv]
     rw [run_equalIn_array w D _ _ hu hi]
     have key : ∀ (k j : Nat) (A A' xs ys : List AV),A.length = j * P.cellsOf e → A'.length = j * P.cellsOf e → fitsL (List.replicate k l).flatten xs = true → fitsL (List.replicate k l).flatten ys = true →
      (Op.eqItems D e (P.cellsOf e) ((A ++ xs).map AV.cell).toArray ((A' ++ ys).map AV.cell).toArray (List.range' j k)).run P w = .ok (sameAs xs ys) w := by
      intro k
      induction k with
      | zero =>
        intro j A A' xs ys _ _ hx hy
        have e1 : xs = [] := List.length_eq_zero_iff.1 (fits_len hx)
        have e2 : ys = [] := List.length_eq_zero_iff.1 (fits_len hy)
        subst e1 e2
        simp [Op.eqItems,sameAs]
      | succ k ihk =>
        intro j A A' xs ys hA hA' hx hy
        rw [List.replicate_succ,List.flatten_cons] at hx hy
        obtain ⟨x1,x2,rfl,hx1,hx2⟩ := fits_app hx
        obtain ⟨y1,y2,rfl,hy1,hy2⟩ := fits_app hy
        rw [List.range'_succ]
        simp only [Op.eqItems,Sem.run_bind,part_leaves hl hA hx1,part_leaves hl hA' hy1,Result.andThen_ok,ih1 e l D w x1 y1 (by omega) hl hx1 hy1,sameAs_app hx1 hy1]
        cases hs : sameAs x1 y1 with
        | false => simp
        | true =>
          have := ihk (j + 1) (A ++ x1) (A' ++ y1) x2 y2 (by rw [List.length_append,hA,fits_len hx1,Nat.add_mul,Nat.one_mul,hce]) (by rw [List.length_append,hA',fits_len hy1,Nat.add_mul,Nat.one_mul,hce]) hx2 hy2
          rw [List.append_assoc,List.append_assoc] at this
          simpa using this
     have := key n 0 [] [] xs ys (by simp) (by simp) hx hy
     rw [List.range_eq_range']
     simpa using this
   ·intro fs off L D w A A' xs ys hD h hA hA' hx hy
    cases fs with
    | nil =>
      simp only [leavesFs,Option.some.injEq] at h
      subst h
      have e1 : xs = [] := List.length_eq_zero_iff.1 (fits_len hx)
      have e2 : ys = [] := List.length_eq_zero_iff.1 (fits_len hy)
      subst e1 e2
      simp [Op.eqFields,sameAs]
    | cons f fs =>
      simp only [leavesFs] at h
      split at h
      ·rename_i hn ho
       split at h
       ·cases h
       ·rename_i l hl
        split at h
        ·cases h
        ·rename_i r hr
         obtain rfl := Option.some.inj h
         obtain ⟨x1,x2,rfl,hx1,hx2⟩ := fits_app hx
         obtain ⟨y1,y2,rfl,hy1,hy2⟩ := fits_app hy
         have ho := Nat.eq_of_beq_eq_true ho
         have hn' : f.name ≠ "_" := by simpa using hn
         simp only [Op.eqFields,hn',ne_eq,not_false_eq_true,if_true,Sem.run_bind,part_leaves hl (hA.trans ho.symm) hx1,part_leaves hl (hA'.trans ho.symm) hy1,Result.andThen_ok,
          ih1 f.type l D w x1 y1 (by omega) hl hx1 hy1,sameAs_app hx1 hy1]
         cases hs : sameAs x1 y1 with
         | false => simp
         | true =>
           have := ih2 fs (off + l.length) r D w (A ++ x1) (A' ++ y1) x2 y2 (by omega) hr (by rw [List.length_append,hA,fits_len hx1]) (by rw [List.length_append,hA',fits_len hy1]) hx2 hy2
           rw [List.append_assoc,List.append_assoc] at this
           simpa using this
      ·cases h
end Qv

end

section
namespace Qv
open Go Go.RowKit
theorem Leaf.rep {imm : Nat → Nat → Prop} {w : World} {v : Value} {l : Leaf} {x : AV} (h : Rep imm w v x) (hl : l.fits x = true) : v = x.cell := by
 cases h <;> cases l <;> first | rfl | (simp [Leaf.fits] at hl)
theorem fits_rep {imm : Nat → Nat → Prop} {w : World} : ∀ (L : List Leaf) (cs : List Value) (xs : List AV),cs.length = xs.length → fitsL L xs = true → (∀ (i : Nat) (c : Value) (x : AV),cs[i]? = some c → xs[i]? = some x → Rep imm w c x) → cs = xs.map AV.cell
 | [],cs,xs,hl,hf,_ => by
   have e2 : xs = [] := List.length_eq_zero_iff.1 (fits_len hf)
   subst e2
   have e1 : cs = [] := List.length_eq_zero_iff.1 hl
   subst e1
   rfl
 | l :: L,cs,[],hl,hf,hr => by simp [fitsL] at hf
 | l :: L,[],x :: xs,hl,hf,hr => by simp at hl
 | l :: L,c :: cs,x :: xs,hl,hf,hr => by
   simp only [fitsL] at hf
   split at hf
   ·rename_i hx
    rw [List.map_cons,Leaf.rep (hr 0 c x rfl rfl) hx,fits_rep L cs xs (by simpa using hl) hf (fun i c x h1 h2 => hr (i + 1) c x (by simpa using h1) (by simpa using h2))]
   ·cases hf
theorem fitsK_cells {agg : Bool} {L : List Leaf} {x : AV} (h : fitsK agg L x = true) : fitsL L x.cells = true := by
 cases agg <;> cases x <;> first | exact h | (simp [fitsK] at h)
theorem fitsK_rep {imm : Nat → Nat → Prop} {w : World} {v : Value} {agg : Bool} {L : List Leaf} {x : AV} (h : Rep imm w v x) (hf : fitsK agg L x = true) : v = tv agg x.cells := by
 cases agg with
 | true =>
   cases h with
   | agg cs xs hl ho hr =>
     have := fits_rep L cs xs hl hf hr
     rw [this]
     rfl
   | _ => simp [fitsK] at hf
 | false =>
   have hf' := fitsK_cells hf
   cases h with
   | agg cs xs hl ho hr => simp [fitsK] at hf
   | _ =>
     all_goals
      simp only [AV.cells] at hf'
      match L,hf' with
      | [],hf' => simp [fitsL] at hf'
      | [l],hf' =>
        simp only [fitsL] at hf'
        split at hf'
        ·rename_i hx
         cases l <;> first | rfl | (simp [Leaf.fits] at hx)
        ·cases hf'
      | _ :: _ :: _,hf' =>
        simp only [fitsL] at hf'
        split at hf' <;> cases hf'
theorem sameA_cells {agg : Bool} {L : List Leaf} {x y : AV} (hx : fitsK agg L x = true) (hy : fitsK agg L y = true) : sameA x y = sameAs x.cells y.cells := by
 cases agg with
 | true =>
   cases x <;> first | (simp [fitsK] at hx; done) | skip
   cases y <;> first | (simp [fitsK] at hy; done) | skip
   rfl
 | false =>
   cases x <;> first | (simp [fitsK] at hx; done) | skip
   all_goals
    cases y <;> first | (simp [fitsK] at hy; done) | simp [sameA,AV.cells,sameAs]
theorem sameA1_eq {x y : AV} (h : sameA1 x y = true) : x = y := by
 cases x <;> cases y <;> simp only [sameA1] at h <;> first
  | (simp at h; subst h; rfl)
  | (simp only [Bool.and_eq_true,beq_iff_eq] at h; obtain ⟨h1,h2⟩ := h; rw [sameK_eq h1,h2])
  | cases h
theorem sameAs_eq : ∀ {xs ys : List AV},sameAs xs ys = true → xs = ys
 | [],[],_ => rfl
 | [],_ :: _,h => by simp [sameAs] at h
 | _ :: _,[],h => by simp [sameAs] at h
 | x :: xs,y :: ys,h => by
   simp only [sameAs,Bool.and_eq_true] at h
   rw [sameA1_eq h.1,sameAs_eq h.2]
theorem sameA_eq {x y : AV} (h : sameA x y = true) : x = y := by
 unfold sameA at h
 split at h
 ·rw [sameAs_eq h]
 ·exact sameA1_eq h
theorem check_leaf {P : Program} {w : World} {d : Nat} {em : Bool} {t : TypeId} {l : Leaf} {x : AV} (hu : (P.underlying t = some .bool ∧ l = .bool) ∨ (∃ k,P.underlying t = some (.int k) ∧ l = .int k) ∨ (P.underlying t = some .string ∧ l = .str))
 (hx : l.fits x = true) : (Instr.checkKey em (d + 1) t x.cell).run P w = .ok () w := by
 unfold Instr.checkKey
 rcases hu with ⟨hu,rfl⟩ | ⟨k,hu,rfl⟩ | ⟨hu,rfl⟩
 all_goals
  cases x <;> simp [Leaf.fits] at hx
  simp [AV.cell,run_underlying hu]
def chkFields (em : Bool) (D : Nat) (xs : Array Value) : List Field → Sem Unit
 | [] => pure ()
 | f :: fs =>
   if f.name ≠ "_" then do
    let a ← part f.type xs f.offset
    Instr.checkKey em D f.type a
    chkFields em D xs fs
   else chkFields em D xs fs
def chkItems (em : Bool) (D : Nat) (e : TypeId) (c : Nat) (xs : Array Value) : List Nat → Sem Unit
 | [] => pure ()
 | i :: is => do
   let a ← part e xs (i * c)
   Instr.checkKey em D e a
   chkItems em D e c xs is
theorem run_chk_struct {P : Program} {w : World} {em : Bool} {D : Nat} {t : TypeId} {fs : Array Field} (xs : Array Value) (hu : P.underlying t = some (.struct fs)) :
 (Instr.checkKey em (D + 1) t (.agg xs)).run P w = (chkFields em D xs fs.toList).run P w := by
 unfold Instr.checkKey
 simp only [Sem.run_bind,run_underlying hu,Result.andThen_ok]
 rw [← Array.forIn_toList]
 generalize fs.toList = fs
 clear hu
 induction fs generalizing w with
 | nil => simp [chkFields]
 | cons f fs ih =>
   simp only [List.forIn_cons,chkFields,Sem.run_bind,Sem.run_ite]
   split
   ·generalize (part f.type xs f.offset).run P w = r1
    cases r1 with
    | ok a w1 =>
      simp only [Result.andThen_ok]
      generalize (Instr.checkKey em D f.type a).run P w1 = r2
      cases r2 with
      | ok b w2 =>
        simp only [Result.andThen_ok,Sem.run_pure]
        have := @ih w2
        simpa using this
      | halt x w2 => simp [Result.andThen]
    | halt x w1 => simp [Result.andThen]
   ·have := @ih w
    simpa using this
theorem run_chk_array {P : Program} {w : World} {em : Bool} {D : Nat} {t e : TypeId} {n : Nat} {i : TypeInfo} (xs : Array Value) (hu : P.underlying t = some (.array n e)) (hi : P.info? e = some i) :
 (Instr.checkKey em (D + 1) t (.agg xs)).run P w = (chkItems em D e (P.cellsOf e) xs (List.range n)).run P w := by
 unfold Instr.checkKey
 simp only [Sem.run_bind,run_underlying hu,Result.andThen_ok]
 simp only [Std.Legacy.Range.forIn_eq_forIn_range',Std.Legacy.Range.size,Nat.sub_zero,Nat.add_one_sub_one,Nat.div_one,List.range_eq_range']
 generalize List.range' 0 n = is
 clear hu
 induction is generalizing w with
 | nil => simp [chkItems]
 | cons j is ih =>
   simp only [List.forIn_cons,chkItems,Sem.run_bind,run_sizeOf w hi,Result.andThen_ok]
   generalize (part e xs (j * P.cellsOf e)).run P w = r1
   cases r1 with
   | ok a w1 =>
     simp only [Result.andThen_ok]
     generalize (Instr.checkKey em D e a).run P w1 = r2
     cases r2 with
     | ok b w2 =>
       simp only [Result.andThen_ok,Sem.run_pure]
       have := @ih w2
       simpa using this
     | halt x w2 => simp [Result.andThen]
   | halt x w1 => simp [Result.andThen]
theorem check_leaves {P : Program} {em : Bool} : ∀ (d : Nat),
 (∀ (t : TypeId) (L : List Leaf) (D : Nat) (w : World) (xs : List AV),d ≤ D → leavesOf P d t = some L → fitsL L xs = true → (Instr.checkKey em D t (tv (aggT P t) xs)).run P w = .ok () w) ∧
 (∀ (fs : List Field) (off : Nat) (L : List Leaf) (D : Nat) (w : World) (A xs : List AV),d ≤ D → leavesFs P d off fs = some L → A.length = off → fitsL L xs = true →
  (chkFields em D ((A ++ xs).map AV.cell).toArray fs).run P w = .ok () w)
 | 0 => ⟨fun t L D w xs _ h => by simp [leavesOf] at h,fun fs off L D w A xs _ h => by simp [leavesFs] at h⟩
 | d + 1 => by
   obtain ⟨ih1,ih2⟩ := check_leaves (P := P) (em := em) d
   constructor
   ·intro t L D w xs hD h hx
    obtain ⟨D,rfl⟩ : ∃ D',D = D' + 1 := ⟨D - 1,by omega⟩
    rcases leaves_inv h with ⟨l,rfl,ha,hu⟩ | ⟨hc,ha,⟨fs,hu,hs,hf⟩ | ⟨n,e,l,hu,hl,hce,rfl⟩⟩
    ·rw [ha]
     match xs,fits_len hx with
     | [x],_ =>
       have hx' : l.fits x = true := by
        simp only [fitsL] at hx; split at hx
        ·assumption
        ·cases hx
       exact check_leaf hu hx'
    ·rw [ha]
     simp only [tv]
     rw [run_chk_struct _ hu]
     exact ih2 fs.toList 0 L D w [] xs (by omega) hf rfl hx
    ·rw [ha]
     obtain ⟨q,i,hq,hi⟩ := leaves_und hl
     simp only [tv]
     rw [run_chk_array _ hu hi]
     have key : ∀ (k j : Nat) (A xs : List AV),A.length = j * P.cellsOf e → fitsL (List.replicate k l).flatten xs = true →
      (chkItems em D e (P.cellsOf e) ((A ++ xs).map AV.cell).toArray (List.range' j k)).run P w = .ok () w := by
      intro k
      induction k with
      | zero => intro j A xs _ _; simp [chkItems]
      | succ k ihk =>
        intro j A xs hA hx
        rw [List.replicate_succ,List.flatten_cons] at hx
        obtain ⟨x1,x2,rfl,hx1,hx2⟩ := fits_app hx
        rw [List.range'_succ]
        simp only [chkItems,Sem.run_bind,Result.andThen_ok,part_leaves hl hA hx1,ih1 e l D w x1 (by omega) hl hx1]
        have := ihk (j + 1) (A ++ x1) x2 (by rw [List.length_append,hA,fits_len hx1,Nat.add_mul,Nat.one_mul,hce]) hx2
        rw [List.append_assoc] at this
        exact this
     have := key n 0 [] xs (by simp) hx
     rw [List.range_eq_range']
     simpa using this
   ·intro fs off L D w A xs hD h hA hx
    cases fs with
    | nil => simp [chkFields]
    | cons f fs =>
      simp only [leavesFs] at h
      split at h
      ·rename_i hn ho
       split at h
       ·cases h
       ·rename_i l hl
        split at h
        ·cases h
        ·rename_i r hr
         obtain rfl := Option.some.inj h
         obtain ⟨x1,x2,rfl,hx1,hx2⟩ := fits_app hx
         have ho := Nat.eq_of_beq_eq_true ho
         have hn' : f.name ≠ "_" := by simpa using hn
         have := ih2 fs (off + l.length) r D w (A ++ x1) x2 (by omega) hr (by rw [List.length_append,hA,fits_len hx1]) hx2
         rw [List.append_assoc] at this
         simp only [chkFields,hn',ne_eq,not_false_eq_true,if_true,Sem.run_bind,part_leaves hl (hA.trans ho.symm) hx1,Result.andThen_ok,ih1 f.type l D w x1 (by omega) hl hx1]
         exact this
      ·cases h
def locate (k : AV) : List AV → Option Nat
 | [] => none
 | x :: xs => match sameA k x with
   | true => some 0
   | false => (locate k xs).map (· + 1)
def KeysAre (agg : Bool) (L : List Leaf) (es : List MapEntry) (ks : List AV) : Prop := es.length = ks.length ∧ ∀ (i : Nat) (e : MapEntry) (x : AV),es[i]? = some e → ks[i]? = some x → e.key = tv agg x.cells ∧ fitsK agg L x = true
theorem KeysAre.tail {agg : Bool} {L : List Leaf} {e : MapEntry} {es : List MapEntry} {x : AV} {ks : List AV} (h : KeysAre agg L (e :: es) (x :: ks)) : e.key = tv agg x.cells ∧ fitsK agg L x = true ∧ KeysAre agg L es ks :=
 ⟨(h.2 0 e x rfl rfl).1,(h.2 0 e x rfl rfl).2,by simpa using h.1,fun i e' x' h1 h2 => h.2 (i + 1) e' x' (by simpa using h1) (by simpa using h2)⟩
def found (es : List MapEntry) (i : Nat) (o : Option Nat) : Option (Nat × Value) := o.bind fun j => (es[j]?).map fun e => (i + j,e.val)
theorem found_succ (e : MapEntry) (es : List MapEntry) (i : Nat) (o : Option Nat) : found (e :: es) i (o.map (· + 1)) = found es (i + 1) o := by
 cases o with
 | none => rfl
 | some j => simp [found,Nat.add_assoc,Nat.add_comm 1]
theorem run_findAsking {P : Program} {w : World} {t : TypeId} {d : Nat} {L : List Leaf} (hd : d ≤ 10000) (hL : leavesOf P d t = some L) {k : AV} (hk : fitsK (aggT P t) L k = true) : ∀ (es : List MapEntry) (ks : List AV) (i : Nat),KeysAre (aggT P t) L es ks →
 (Instr.findAsking t (tv (aggT P t) k.cells) es i).run P w = .ok (found es i (locate k ks)) w
 | [],ks,i,h => by
   have : ks = [] := List.length_eq_zero_iff.1 h.1.symm
   subst this
   simp [Instr.findAsking,locate,found]
 | e :: es,[],i,h => by have := h.1; simp at this
 | e :: es,x :: ks,i,h => by
   obtain ⟨h1,h2,h3⟩ := h.tail
   have heq := (eq_leaves d).1 t L 10000 w k.cells x.cells hd hL (fitsK_cells hk) (fitsK_cells h2)
   have heq' : (Op.equal t (tv (aggT P t) k.cells) e.key).run P w = .ok (sameA k x) w := by
    rw [h1,sameA_cells hk h2]; exact heq
   simp only [Instr.findAsking,Sem.run_bind,heq',Result.andThen_ok,locate]
   cases hs : sameA k x with
   | true => simp [found]
   | false =>
     have := run_findAsking (w := w) hd hL hk es ks (i + 1) h3
     simp only [Bool.false_eq_true,if_false,this,found_succ]
theorem fits_one {l : Leaf} {k : AV} (h : fitsK false [l] k = true) : l.fits k = true := by
 cases k <;> first | (simp [fitsK] at h; done) | skip
 all_goals
  have := fitsK_cells h
  simp only [AV.cells,fitsL] at this
  split at this
  ·assumption
  ·cases this
theorem findNow_L {P : Program} {t : TypeId} {q : TypeDesc} {l : Leaf} (hu : P.underlying t = some q) (ha : aggT P t = false) (hl : (P.underlying t = some .bool ∧ l = .bool) ∨ (∃ k,P.underlying t = some (.int k) ∧ l = .int k) ∨ (P.underlying t = some .string ∧ l = .str)) {k : AV} (hk : fitsK false [l] k = true) :
 ∀ (es : List MapEntry) (ks : List AV) (i : Nat),KeysAre false [l] es ks → Instr.findNow q (tv false k.cells) es i = some (found es i (locate k ks))
 | [],ks,i,h => by
   have : ks = [] := List.length_eq_zero_iff.1 h.1.symm
   subst this
   simp [Instr.findNow,locate,found]
 | e :: es,[],i,h => by have := h.1; simp at this
 | e :: es,x :: ks,i,h => by
   obtain ⟨h1,h2,h3⟩ := h.tail
   have hs : Instr.sameNow q (tv false k.cells) e.key = some (sameA k x) := by
    rw [h1]
    have f1 := fits_one hk
    have f2 := fits_one h2
    rcases hl with ⟨hl,rfl⟩ | ⟨kk,hl,rfl⟩ | ⟨hl,rfl⟩
    all_goals
     rw [hu] at hl
     obtain rfl := Option.some.inj hl
     cases k <;> first | (simp [Leaf.fits] at f1; done) | skip
     cases x <;> first | (simp [Leaf.fits] at f2; done) | skip
    ·simp [tv,AV.cells,AV.cell,Instr.sameNow,sameA,sameA1]
    ·simp only [Leaf.fits] at f1 f2
     obtain rfl := sameK_eq f1
     obtain rfl := sameK_eq f2
     simp [tv,AV.cells,AV.cell,Instr.sameNow,sameA,sameA1,sameK_refl]
    ·simp only [tv,AV.cells,AV.cell,Instr.sameNow,sameA,sameA1,List.map_cons,List.map_nil,List.headD_cons,beq_toListBytes]
     simp [ByteArray.toList_eq]
   simp only [Instr.findNow,hs,locate]
   cases hq : sameA k x with
   | true => simp [found]
   | false =>
     have := findNow_L hu ha hl hk es ks (i + 1) h3
     simp only [this,found_succ]
theorem run_findKey' {P : Program} {w : World} {t : TypeId} {d : Nat} {L : List Leaf} (hd : d ≤ 10000) (hL : leavesOf P d t = some L) {k : AV} (hk : fitsK (aggT P t) L k = true) {es : List MapEntry} {ks : List AV} (h : KeysAre (aggT P t) L es ks) :
 (Instr.findKey t (tv (aggT P t) k.cells) es).run P w = .ok (found es 0 (locate k ks)) w := by
 obtain ⟨q,i,hq,hi⟩ := leaves_und hL
 cases d with
 | zero => simp [leavesOf] at hL
 | succ d =>
   rcases leaves_inv hL with ⟨l,rfl,ha,hu⟩ | ⟨hc,ha,hu⟩
   ·rw [ha] at hk h ⊢
    simp only [Instr.findKey,Sem.run_bind,run_underlying hq,Result.andThen_ok,findNow_L hq ha hu hk es ks 0 h,Sem.run_pure]
   ·have hask := run_findAsking (w := w) hd hL hk es ks 0 h
    have hnow : Instr.findNow q (tv (aggT P t) k.cells) es 0 = (match es with | [] => some none | _ :: _ => none) := by
     cases es with
     | nil => rfl
     | cons e es =>
       rcases hu with ⟨fs,hu,-⟩ | ⟨n,e',l,hu,-⟩
       all_goals
        rw [hq] at hu
        obtain rfl := Option.some.inj hu
        simp [Instr.findNow,Instr.sameNow]
    simp only [Instr.findKey,Sem.run_bind,run_underlying hq,Result.andThen_ok,hnow]
    cases es with
    | nil =>
      have : ks = [] := List.length_eq_zero_iff.1 h.1.symm
      subst this
      simp [locate,found]
    | cons e es => exact hask
theorem sameBits_cell {l : Leaf} {x : AV} (h : l.fits x = true) (n : Nat) : Instr.sameBits n x.cell x.cell = true := by
 cases l <;> cases x <;> simp [Leaf.fits] at h <;> cases n <;> simp [AV.cell,Instr.sameBits,beq_toListBytes]
theorem zip_self_all {p : Value → Value → Bool} : ∀ (xs : List Value),(∀ x,x ∈ xs → p x x = true) → ((xs.zip xs).all fun (a,b) => p a b) = true
 | [],_ => rfl
 | x :: xs,h => by
   simp only [List.zip_cons_cons,List.all_cons,h x (by simp),Bool.true_and]
   exact zip_self_all xs fun y hy => h y (by simp [hy])
theorem sameBits_tv {agg : Bool} {L : List Leaf} {x : AV} (h : fitsK agg L x = true) (n : Nat) : Instr.sameBits (n + 1) (tv agg x.cells) (tv agg x.cells) = true := by
 have hc := fitsK_cells h
 cases agg with
 | true =>
   have hall : ∀ {L : List Leaf} {xs : List AV},fitsL L xs = true → ∀ y ∈ xs,∃ l : Leaf,l.fits y = true := by
    intro L
    induction L with
    | nil => intro xs h y hy; have := List.length_eq_zero_iff.1 (fits_len h); subst this; simp at hy
    | cons l L ih =>
      intro xs h y hy
      cases xs with
      | nil => simp at hy
      | cons x xs =>
        simp only [fitsL] at h
        split at h
        ·rename_i hx
         rcases List.mem_cons.1 hy with rfl | hy
         ·exact ⟨l,hx⟩
         ·exact ih h y hy
        ·cases h
   simp only [tv,Instr.sameBits,beq_self_eq_true,Bool.true_and]
   refine zip_self_all (p := Instr.sameBits n) _ fun y hy => ?_
   obtain ⟨z,hz,rfl⟩ := List.mem_map.1 (by simpa using hy)
   obtain ⟨l,hl⟩ := hall hc z hz
   exact sameBits_cell hl n
 | false =>
   cases x <;> first | (simp [fitsK] at h; done) | skip
   all_goals
    simp only [AV.cells] at hc
    match L,hc with
    | [],hc => simp [fitsL] at hc
    | [l],hc =>
      simp only [fitsL] at hc
      split at hc
      ·rename_i hx
       exact sameBits_cell hx _
      ·cases hc
    | _ :: _ :: _,hc =>
      simp only [fitsL] at hc
      split at hc <;> cases hc
theorem run_keyStays {P : Program} {w : World} {agg : Bool} {L : List Leaf} {x : AV} (h : fitsK agg L x = true) : (Instr.keyThatStays (tv agg x.cells) (tv agg x.cells)).run P w = .ok (tv agg x.cells) w := by
 unfold Instr.keyThatStays
 rw [sameBits_tv h]
 rfl
end Qv

end

section
namespace Qv
open Go Go.RowKit
theorem tabGet_mem {l : List (TypeId × TInfo)} {t : TypeId} {i : TInfo} (h : tabGet l t = some i) : (t,i) ∈ l := by
 induction l with
 | nil => cases h
 | cons p l ih =>
   obtain ⟨u,j⟩ := p
   simp only [tabGet] at h
   split at h
   ·rename_i hb
    obtain rfl := Nat.eq_of_beq_eq_true hb
    obtain rfl := Option.some.inj h
    exact List.mem_cons_self
   ·exact List.mem_cons_of_mem _ (ih h)
theorem Ctx.ok (C : Ctx) {t : TypeId} {i : TInfo} (h : tabGet C.tab t = some i) : TabOK C.P t i := C.tabOK t i (tabGet_mem h)
theorem TabOK.info' {P : Program} {t : TypeId} {i : TInfo} (h : TabOK P t i) : ∃ inf z,P.info? t = some inf ∧ inf.size = i.size ∧ inf.bytes = i.bytes ∧ inf.zero = some z ∧ z.cells.toList = i.zero := by
 have := h.info
 cases hi : P.info? t with
 | none => simp [hi] at this
 | some inf =>
   simp only [hi,Option.map_some,Option.some.injEq,Prod.mk.injEq] at this
   obtain ⟨h1,h2,h3⟩ := this
   cases hz : inf.zero with
   | none => simp [hz] at h3
   | some z =>
     simp only [hz,Option.map_some,Option.some.injEq] at h3
     exact ⟨inf,z,rfl,h1,h2,hz,h3⟩
theorem TabOK.und' {P : Program} {t : TypeId} {i : TInfo} (h : TabOK P t i) : ∃ d,P.underlying t = some d ∧ shapeOf d = i.shape := by
 have := h.und
 cases hd : P.underlying t with
 | none => simp [hd] at this
 | some d => simp only [hd,Option.map_some,Option.some.injEq] at this; exact ⟨d,rfl,this⟩
theorem TabOK.sizeOf {P : Program} {t : TypeId} {i : TInfo} (h : TabOK P t i) (w : World) : (Go.sizeOf t).run P w = .ok i.size w := by
 obtain ⟨inf,z,h1,h2,-⟩ := h.info'
 simp [Go.sizeOf,run_typeInfo w h1,h2]
theorem TabOK.isAgg {P : Program} {t : TypeId} {i : TInfo} (h : TabOK P t i) (w : World) : (Go.isAgg t).run P w = .ok i.shape.isAgg w := by
 obtain ⟨d,h1,h2⟩ := h.und'
 simp only [Go.isAgg,Sem.run_bind,run_underlying h1,Result.andThen_ok]
 rw [← h2]
 cases d <;> rfl
theorem TabOK.aggT {P : Program} {t : TypeId} {i : TInfo} (h : TabOK P t i) : Qv.aggT P t = i.shape.isAgg := by
 obtain ⟨d,h1,h2⟩ := h.und'
 rw [← h2]
 unfold Qv.aggT
 rw [h1]
 cases d <;> rfl
theorem TabOK.slice {P : Program} {t e : TypeId} {a b : Nat} {z : List Value} (h : TabOK P t ⟨a,b,.slice e,z⟩) : P.underlying t = some (.slice e) := by
 obtain ⟨d,h1,h2⟩ := h.und'
 cases d <;> simp [shapeOf] at h2
 rw [h1,h2]
theorem TabOK.array {P : Program} {t e : TypeId} {a b n : Nat} {z : List Value} (h : TabOK P t ⟨a,b,.array n e,z⟩) : P.underlying t = some (.array n e) := by
 obtain ⟨d,h1,h2⟩ := h.und'
 cases d <;> simp [shapeOf] at h2
 rw [h1,h2.1,h2.2]
theorem TabOK.str {P : Program} {t : TypeId} {a b : Nat} {z : List Value} (h : TabOK P t ⟨a,b,.str,z⟩) : P.underlying t = some .string := by
 obtain ⟨d,h1,h2⟩ := h.und'
 cases d <;> simp [shapeOf] at h2
 exact h1
theorem TabOK.bool {P : Program} {t : TypeId} {a b : Nat} {z : List Value} (h : TabOK P t ⟨a,b,.bool,z⟩) : P.underlying t = some .bool := by
 obtain ⟨d,h1,h2⟩ := h.und'
 cases d <;> simp [shapeOf] at h2
 exact h1
theorem TabOK.int {P : Program} {t : TypeId} {a b : Nat} {k : IntKind} {z : List Value} (h : TabOK P t ⟨a,b,.int k,z⟩) : P.underlying t = some (.int k) := by
 obtain ⟨d,h1,h2⟩ := h.und'
 cases d <;> simp [shapeOf] at h2
 rw [h1,h2]
theorem TabOK.struct {P : Program} {t : TypeId} {a b : Nat} {fs : List (Nat × TypeId)} {z : List Value} (h : TabOK P t ⟨a,b,.struct fs,z⟩) :
 ∃ gs,P.underlying t = some (.struct gs) ∧ fs = gs.toList.map fun f => (f.offset,f.type) := by
 obtain ⟨d,h1,h2⟩ := h.und'
 cases d <;> simp [shapeOf] at h2
 exact ⟨_,h1,h2.symm⟩
theorem TabOK.ptr {P : Program} {t e : TypeId} {a b : Nat} {z : List Value} (h : TabOK P t ⟨a,b,.ptr e,z⟩) : P.underlying t = some (.pointer e) := by
 obtain ⟨d,h1,h2⟩ := h.und'
 cases d <;> simp [shapeOf] at h2
 rw [h1,h2]
theorem run_eqIn_ptr_nil {P : Program} {w : World} {t e : TypeId} (d : Nat) (p : Option Addr) (h : P.underlying t = some (.pointer e)) : (Op.equalIn (d + 1) t (.pointer p) (.pointer none)).run P w = .ok p.isNone w := by
 cases p <;> simp [Op.equalIn,run_underlying h]
theorem run_eq_ptr_nil {P : Program} {w : World} {t e : TypeId} (p : Option Addr) (h : P.underlying t = some (.pointer e)) : (Op.equal t (.pointer p) (.pointer none)).run P w = .ok p.isNone w :=
 run_eqIn_ptr_nil 9999 p h
theorem run_eqIn_ptr_same {P : Program} {w : World} {t e : TypeId} {i : TInfo} (d : Nat) (p : Addr) (h : P.underlying t = some (.pointer e)) (hi : TabOK P e i) : (Op.equalIn (d + 1) t (.pointer (some p)) (.pointer (some p))).run P w = .ok true w := by
 have hso := hi.sizeOf w
 simp only [Op.equalIn,Sem.run_bind,run_underlying h,Result.andThen_ok,hso,sameAddr]
 by_cases h0 : i.size = 0 <;> simp [h0]
theorem run_eq_ptr_same {P : Program} {w : World} {t e : TypeId} {i : TInfo} (p : Addr) (h : P.underlying t = some (.pointer e)) (hi : TabOK P e i) : (Op.equal t (.pointer (some p)) (.pointer (some p))).run P w = .ok true w :=
 run_eqIn_ptr_same 9999 p h hi
theorem dropN_eq {α : Type} (n : Nat) (xs : List α) : dropN n xs = xs.drop n := by
 induction n generalizing xs with
 | zero => rfl
 | succ n ih => cases xs <;> simp [dropN,ih]
theorem dropN_head {α : Type} {n : Nat} {xs : List α} {y : α} {ys : List α} (h : dropN n xs = y :: ys) : xs[n]? = some y := by
 rw [dropN_eq] at h
 have := congrArg (·[0]?) h
 simpa using this
theorem takeN_some {n : Nat} {xs cs : List FV} (h : takeN n xs = some cs) : cs = xs.take n ∧ n ≤ xs.length := by
 induction n generalizing xs cs with
 | zero => simp [takeN] at h; simp [h]
 | succ n ih =>
   cases xs with
   | nil => simp [takeN] at h
   | cons x xs =>
     simp only [takeN] at h
     split at h
     ·rename_i ys hy
      obtain rfl := Option.some.inj h
      obtain ⟨h1,h2⟩ := ih hy
      simp [h1,h2]
     ·cases h
theorem takeA_some {n : Nat} {xs cs : List AV} (h : takeA n xs = some cs) : cs = xs.take n ∧ n ≤ xs.length := by
 induction n generalizing xs cs with
 | zero => simp [takeA] at h; simp [h]
 | succ n ih =>
   cases xs with
   | nil => simp [takeA] at h
   | cons x xs =>
     simp only [takeA] at h
     split at h
     ·rename_i ys hy
      obtain rfl := Option.some.inj h
      obtain ⟨h1,h2⟩ := ih hy
      simp [h1,h2]
     ·cases h
theorem TabOK.field {P : Program} {s : TypeId} {a b f : Nat} {fs : List (Nat × TypeId)} {z : List Value} {o : Nat} {t : TypeId} {r : List (Nat × TypeId)}
 (h : TabOK P s ⟨a,b,.struct fs,z⟩) (hd : dropN f fs = (o,t) :: r) : ∃ (gs : Array Field) (g : Field),P.underlying s = some (.struct gs) ∧ gs[f]? = some g ∧ g.offset = o ∧ g.type = t := by
 obtain ⟨gs,h1,h2⟩ := h.struct
 have h3 := dropN_head hd
 rw [h2,List.getElem?_map] at h3
 cases hg : gs.toList[f]? with
 | none => simp [hg] at h3
 | some g =>
   simp only [hg,Option.map_some,Option.some.injEq,Prod.mk.injEq] at h3
   exact ⟨gs,g,h1,by simpa using hg,h3.1,h3.2⟩
section
variable {imm : Nat → Nat → Prop} {w : World} {v : Value} {G : Ghost}
theorem Rep.int_inv {k : IntKind} {n : Int} (h : Rep imm w v (.int k n)) : v = .int k n := by cases h; rfl
theorem Rep.bool_inv {b : Bool} (h : Rep imm w v (.bool b)) : v = .bool b := by cases h; rfl
theorem Rep.str_inv {s : List UInt8} (h : Rep imm w v (.str s)) : v = .string ⟨s.toArray⟩ := by cases h; rfl
theorem RepF.int_inv {k : IntKind} {n : Int} (h : RepF G w v (.p (.int k n))) : v = .int k n := by cases h with | p _ _ h => exact h.int_inv
theorem RepF.nilp_inv (h : RepF G w v (.p .nilp)) : v = .pointer none := by cases h with | p _ _ h => cases h; rfl
theorem RepF.bool_inv {b : Bool} (h : RepF G w v (.p (.bool b))) : v = .bool b := by cases h with | p _ _ h => exact h.bool_inv
theorem RepF.str_inv {s : List UInt8} (h : RepF G w v (.p (.str s))) : v = .string ⟨s.toArray⟩ := by cases h with | p _ _ h => exact h.str_inv
theorem RepF.plain {x : AV} (h : RepF G w v (.p x)) : Rep G.imm w v x := by cases h with | p _ _ h => exact h
theorem RepF.undef_inv (h : RepF G w v (.p (.tup []))) : v = undef := by
 cases h with
 | p _ _ h =>
   cases h with
   | tup cs xs hl h =>
     have : cs = [] := List.length_eq_zero_iff.1 (by simpa using hl)
     subst this; rfl
theorem RepF.ptr_inv {o off : Nat} (h : RepF G w v (.ptr o off)) : ∃ b,v = .pointer (some ⟨b,off,none⟩) ∧ G.loc o = some b := by
 cases h with
 | ptr _ _ b h => exact ⟨b,rfl,h⟩
theorem Rep.sl_inv {xs : List (List AV)} (h : Rep imm w v (.sl xs)) : ∃ a c,v = .slice a xs.length c ∧ xs.length ≤ c ∧
 (xs ≠ [] → ∃ (b off esz : Nat) (cell : Nat → Nat → Value),a = some ⟨b,off,none⟩ ∧
  (∀ (i : Nat) (ys : List AV),xs[i]? = some ys → ys.length = esz) ∧
  (∀ (i : Nat) (ys : List AV) (j : Nat) (y : AV),xs[i]? = some ys → ys[j]? = some y → y.one = true ∧ w.cell? ⟨b,off + i * esz + j,none⟩ = some (cell i j) ∧ imm b (off + i * esz + j) ∧ Rep imm w (cell i j) y)) := by
 cases h with
 | sl0 a c => exact ⟨a,c,rfl,Nat.zero_le _,fun h => absurd rfl h⟩
 | sl b off c esz xs cell h1 h2 h3 h4 h5 h6 =>
   exact ⟨_,c,rfl,h6,fun _ => ⟨b,off,esz,cell,rfl,h1,fun i ys j y a b => ⟨h2 i ys j y a b,h3 i ys j y a b,h4 i ys j y a b,h5 i ys j y a b⟩⟩⟩
theorem RepF.elems {x : FV} {xs : List (List AV)} (hx : x.elems = some xs) (h : RepF G w v x) : Rep G.imm w v (.sl xs) := by
 cases x with
 | p y =>
   cases y <;> simp [FV.elems] at hx
   subst hx
   exact h.plain
 | tip t T e ys =>
   simp only [FV.elems,Option.some.injEq] at hx
   subst hx
   exact h.toAV rfl
 | full ys =>
   simp only [FV.elems,Option.some.injEq] at hx
   subst hx
   exact h.toAV rfl
 | _ => simp [FV.elems] at hx
theorem Rep.imp_inv {xs : List AV} (h : Rep imm w v (.imp xs)) : ∃ b off,v = .pointer (some ⟨b,off,none⟩) ∧
 ∀ (j : Nat) (y : AV),xs[j]? = some y → ∃ c,y.one = true ∧ w.cell? ⟨b,off + j,none⟩ = some c ∧ imm b (off + j) ∧ Rep imm w c y := by
 cases h with
 | imp b off xs cell h2 h3 h4 h5 => exact ⟨b,off,rfl,fun j y a => ⟨cell j,h2 j y a,h3 j y a,h4 j y a,h5 j y a⟩⟩
theorem Rep.imp_mk {xs : List AV} {b off : Nat} (h : ∀ (j : Nat) (y : AV),xs[j]? = some y → ∃ c,y.one = true ∧ w.cell? ⟨b,off + j,none⟩ = some c ∧ imm b (off + j) ∧ Rep imm w c y) :
 Rep imm w (.pointer (some ⟨b,off,none⟩)) (.imp xs) := by
 refine .imp b off xs (fun j => (w.cell? ⟨b,off + j,none⟩).getD undef) (fun j y hy => (h j y hy).choose_spec.1) (fun j y hy => ?_) (fun j y hy => (h j y hy).choose_spec.2.2.1) (fun j y hy => ?_)
 ·obtain ⟨c,-,hc,-⟩ := h j y hy; rw [hc]; rfl
 ·obtain ⟨c,-,hc,-,hr⟩ := h j y hy; rw [hc]; exact hr
theorem Rep.sl_mk {xs : List (List AV)} {b off esz c : Nat} (hc : xs.length ≤ c) (h1 : ∀ (i : Nat) (ys : List AV),xs[i]? = some ys → ys.length = esz)
 (h : ∀ (i : Nat) (ys : List AV) (j : Nat) (y : AV),xs[i]? = some ys → ys[j]? = some y → ∃ u,y.one = true ∧ w.cell? ⟨b,off + i * esz + j,none⟩ = some u ∧ imm b (off + i * esz + j) ∧ Rep imm w u y) :
 Rep imm w (.slice (some ⟨b,off,none⟩) xs.length c) (.sl xs) := by
 refine .sl b off c esz xs (fun i j => (w.cell? ⟨b,off + i * esz + j,none⟩).getD undef) h1 (fun i ys j y a a' => (h i ys j y a a').choose_spec.1) (fun i ys j y a a' => ?_) (fun i ys j y a a' => (h i ys j y a a').choose_spec.2.2.1) (fun i ys j y a a' => ?_) hc
 ·obtain ⟨c,-,hc,-⟩ := h i ys j y a a'; rw [hc]; rfl
 ·obtain ⟨c,-,hc,-,hr⟩ := h i ys j y a a'; rw [hc]; exact hr
theorem Rep.oneV {x : AV} (h : Rep imm w v x) (hx : x.one = true) : v.oneCell' = true := by
 cases h <;> first | rfl | (simp [AV.one] at hx)
theorem RepF.oneV {x : FV} (h : RepF G w v x) (hx : x.one = true) : v.oneCell' = true := by
 cases h with
 | p v x h => exact h.oneV (by cases x <;> simp_all [FV.one,AV.one])
 | _ => first | rfl | (simp [FV.one] at hx)
end
section
variable {E : Env} {G : Ghost} {S : ASt} {a : Act} {w : World} {o : Oper} {K : FV → Prop}
def Yields (E : Env) (G : Ghost) (a : Act) (w : World) (o : Oper) (K : FV → Prop) : Prop :=
 ∃ v x w',(execOp a.eval o).run E.C.P w = .ok (.value v) w' ∧ K x ∧ Below w.heap.size w w' ∧
   RepF { G with imm := fun b o => G.imm b o ∨ (w.heap.size ≤ b ∧ b < w'.heap.size) } w' v x
theorem Yields.same {v : Value} {x : FV} (h : (execOp a.eval o).run E.C.P w = .ok (.value v) w) (hk : K x) (hr : RepF G w v x) : Yields E G a w o K :=
 ⟨v,x,w,h,hk,Below.refl _ _,hr.keep (fun _ _ h => .inl h) (fun _ _ _ _ h => h) (.refl _ _) (fun _ _ h => h) (fun _ _ h => h)⟩
theorem yields_eqp {op : BinOp} {t yt : TypeId} {x y : Operand} {p q : Option Addr} {b : Bool} (ho : o.op = .binOp op t x y yt) (ex : a.eval x = .pointer p) (ey : a.eval y = .pointer q)
 (hq : (Op.equal t (.pointer p) (.pointer q)).run E.C.P w = .ok b w) (h : (op = .eql ∧ K (.p (.bool b))) ∨ (op = .neq ∧ K (.p (.bool (!b))))) : Yields E G a w o K := by
 have hg : ∀ op,(eqGuard op t x y (.pointer p) (.pointer q)).run E.C.P w = .ok () w := by intro op; unfold eqGuard; split <;> simp
 rcases h with ⟨rfl,h⟩ | ⟨rfl,h⟩
 ·exact Yields.same (by simp [execOp,ho,ex,ey,hg,binOp,hq]) h (.p _ _ (.bool _))
 ·exact Yields.same (by simp [execOp,ho,ex,ey,hg,binOp,hq]) h (.p _ _ (.bool _))
theorem TabOK.iface {P : Program} {t : TypeId} {a b : Nat} {z : List Value} (h : TabOK P t ⟨a,b,.iface,z⟩) : ∃ ms,P.underlying t = some (.interface ms) := by
 obtain ⟨d,h1,h2⟩ := h.und'
 cases d <;> simp [shapeOf] at h2
 exact ⟨_,h1⟩
theorem run_eqIn_nili {P : Program} {w : World} {t : TypeId} {ms : Array (String × TypeId)} (d : Nat) (v : Value) (b : Bool) (h : P.underlying t = some (.interface ms)) (hv : v = .nilIface ∧ b = true ∨ (∃ u x,v = .iface u x) ∧ b = false) :
 (Op.equalIn (d + 1) t v .nilIface).run P w = .ok b w := by
 rcases hv with ⟨rfl,rfl⟩ | ⟨⟨u,x,rfl⟩,rfl⟩ <;> simp [Op.equalIn,run_underlying h]
theorem run_eq_nili {P : Program} {w : World} {t : TypeId} {ms : Array (String × TypeId)} (v : Value) (b : Bool) (h : P.underlying t = some (.interface ms)) (hv : v = .nilIface ∧ b = true ∨ (∃ u x,v = .iface u x) ∧ b = false) :
 (Op.equal t v .nilIface).run P w = .ok b w := run_eqIn_nili 9999 v b h hv
theorem yields_nili (hs : SimG E G S a w) {op : BinOp} {t yt : TypeId} {x y : Operand} (ho : o.op = .binOp op t x y yt) (hy : isNilI y = true) (h : evNilI E.C t op (S.val x) K) : Yields E G a w o K := by
 have hx := RepF.val hs x
 generalize S.val x = vx at h hx
 generalize hex : a.eval x = v at hx
 unfold isNilI at hy
 split at hy
 ·have ey : a.eval (.const .nilIface) = .nilIface := rfl
  have key : ∀ (b : Bool),(v = .nilIface ∧ b = true ∨ (∃ u x,v = .iface u x) ∧ b = false) → (∃ ms,E.C.P.underlying t = some (.interface ms)) → ((op = .eql ∧ K (.p (.bool b))) ∨ (op = .neq ∧ K (.p (.bool (!b))))) → Yields E G a w o K := fun b hv ⟨ms,hm⟩ hk => by
   have hq : (Op.equal t v .nilIface).run E.C.P w = .ok b w := run_eq_nili v b hm hv
   have hg : (eqGuard op t x (.const .nilIface) v .nilIface).run E.C.P w = .ok () w := by
    rcases hv with ⟨rfl,rfl⟩ | ⟨⟨u,z,rfl⟩,rfl⟩
    ·unfold eqGuard; split <;> simp
    ·unfold eqGuard; split <;> simp
   rcases hv with ⟨rfl,rfl⟩ | ⟨⟨u,z,rfl⟩,rfl⟩
   ·rcases hk with ⟨rfl,hk⟩ | ⟨rfl,hk⟩
    ·exact Yields.same (by simp [execOp,ho,hex,ey,hg,binOp,hq]) hk (.p _ _ (.bool _))
    ·exact Yields.same (by simp [execOp,ho,hex,ey,hg,binOp,hq]) hk (.p _ _ (.bool _))
   ·rcases hk with ⟨rfl,hk⟩ | ⟨rfl,hk⟩
    ·exact Yields.same (by simp [execOp,ho,hex,ey,hg,binOp,hq]) hk (.p _ _ (.bool _))
    ·exact Yields.same (by simp [execOp,ho,hex,ey,hg,binOp,hq]) hk (.p _ _ (.bool _))
  unfold evNilI at h
  split at h
  ·rename_i ht
   have hm := (E.C.ok ht).iface
   have nil_inv : RepF G w v (.p .nili) → v = .nilIface := fun h => by cases h with | p _ _ h => cases h; rfl
   have if_inv : ∀ {u : TypeId} {z : AV},RepF G w v (.p (.iface u z)) → ∃ u x,v = .iface u x := fun h => by cases h with | p _ _ h => cases h; exact ⟨_,_,rfl⟩
   split at h
   ·exact key true (.inl ⟨nil_inv hx,rfl⟩) hm (.inl ⟨rfl,h⟩)
   ·exact key false (.inr ⟨if_inv hx,rfl⟩) hm (.inl ⟨rfl,h⟩)
   ·exact key true (.inl ⟨nil_inv hx,rfl⟩) hm (.inr ⟨rfl,h⟩)
   ·exact key false (.inr ⟨if_inv hx,rfl⟩) hm (.inr ⟨rfl,h⟩)
   ·exact h.elim
  ·exact h.elim
 ·cases hy
theorem yields_binA (hs : SimG E G S a w) {op : BinOp} {t yt : TypeId} {x y : Operand} {vx vy : FV} (ho : o.op = .binOp op t x y yt) (hx : RepF G w (a.eval x) vx) (hy : RepF G w (a.eval y) vy) (h : evBinA E.C t op vx vy K) : Yields E G a w o K := by
 unfold evBinA at h
 split at h
 ·exact h.elim
 ·rename_i i hi
  have hok := E.C.ok hi
  split at h
  ·rename_i xs ys hagg hxs hys
   obtain ⟨L,hL,hg,f1,f2,h⟩ := h
   have ha : aggT E.C.P t = true := by rw [hok.aggT,hagg]
   have e1 : a.eval x = tv true xs := fitsK_rep (hx.toAV hxs) (agg := true) (L := L) f1
   have e2 : a.eval y = tv true ys := fitsK_rep (hy.toAV hys) (agg := true) (L := L) f2
   have hq : (Op.equal t (tv true xs) (tv true ys)).run E.C.P w = .ok (sameAs xs ys) w := by
    have := (eq_leaves (P := E.C.P) 40).1 t L Op.maxDepth w xs ys (by decide) hL f1 f2
    rw [ha] at this
    exact this
   have hg' : (eqGuard op t x y (tv true xs) (tv true ys)).run E.C.P w = .ok () w := by
    unfold eqGuard
    simp only [tv]
    split <;> simp [hg]
   simp only [tv] at e1 e2 hq hg'
   cases op <;> simp only at h <;> first
    | exact h.elim
    | (exact Yields.same (by simp [execOp,ho,e1,e2,hg',binOp,hq]; rfl) (h.out _ rfl) (.p _ _ (.bool _)))
    | (exact Yields.same (by simp [execOp,ho,e1,e2,hg',binOp,hq]) (h.out _ rfl) (.p _ _ (.bool _)))
  ·exact h.elim
theorem yields_bin (hs : SimG E G S a w) {op : BinOp} {t yt : TypeId} {x y : Operand} (ho : o.op = .binOp op t x y yt) (h : evBin E.C t op (S.val x) (S.val y) K) : Yields E G a w o K := by
 have hx := RepF.val hs x
 have hy := RepF.val hs y
 generalize S.val x = vx at h hx
 generalize S.val y = vy at h hy
 unfold evBin at h
 split at h
 ·rename_i k m k' n
  split at h
  case h_2 => exact h.elim
  rename_i hk
  obtain rfl := sameK_eq hk
  have ex := hx.int_inv
  have ey := hy.int_inv
  have hg : (eqGuard op t x y (.int k m) (.int k n)).run E.C.P w = .ok () w := by unfold eqGuard; split <;> simp
  cases op <;> simp only [evInt] at h <;> first
   | exact h.elim
   | (obtain ⟨c,rfl,h⟩ := h; exact Yields.same (by simp [execOp,ho,ex,ey,hg,binOp,Op.intArith]) h (.p _ _ (.int _ _)))
   | (obtain ⟨hn,c,rfl,h⟩ := h; exact Yields.same (by simp [execOp,ho,ex,ey,hg,binOp,Op.intDiv,hn]) h (.p _ _ (.int _ _)))
   | (exact Yields.same (by simp [execOp,ho,ex,ey,hg,binOp,Op.intCmp]) (h.out _ rfl) (.p _ _ (.bool _)))
 ·rename_i s r
  have ex := hx.str_inv
  have ey := hy.str_inv
  have hg : (eqGuard op t x y (.string ⟨s.toArray⟩) (.string ⟨r.toArray⟩)).run E.C.P w = .ok () w := by unfold eqGuard; split <;> simp
  have l1 : (⟨s.toArray⟩ : ByteArray).toList = s := by simp [ByteArray.toList_eq]
  have l2 : (⟨r.toArray⟩ : ByteArray).toList = r := by simp [ByteArray.toList_eq]
  cases op <;> simp only [evStr] at h <;> first
   | exact h.elim
   | (obtain ⟨hlen,h⟩ := h
      have hlen' : ¬ (((⟨s.toArray⟩ : ByteArray).size + (⟨r.toArray⟩ : ByteArray).size : Nat) : Int) > IntKind.i64.max := by
       have h1 : (⟨s.toArray⟩ : ByteArray).size = s.length := by simp [ByteArray.size]
       have h2 : (⟨r.toArray⟩ : ByteArray).size = r.length := by simp [ByteArray.size]
       rw [h1,h2]
       simp only [IntKind.max,IntKind.signed,IntKind.bits,if_true]
       omega
      have hcat : (⟨s.toArray⟩ : ByteArray) ++ ⟨r.toArray⟩ = ⟨(s ++ r).toArray⟩ := by
       apply ByteArray.ext
       simp
      exact Yields.same (v := .string ⟨(s ++ r).toArray⟩) (by simp only [execOp,ho,ex,ey,hg,binOp,Op.stringOp,hlen',hcat,Sem.run_bind,Result.andThen_ok,if_false,Sem.run_pure]) h (.p _ _ (.str _)))
   | (exact Yields.same (by simp [execOp,ho,ex,ey,hg,binOp,Op.stringOp,l1,l2]; rfl) (h.out _ rfl) (.p _ _ (.bool _)))
   | (exact Yields.same (by simp [execOp,ho,ex,ey,hg,binOp,Op.stringOp,l1,l2]) (h.out _ rfl) (.p _ _ (.bool _)))
 ·rename_i ob off
  generalize hex : a.eval x = vx at hx
  generalize hey : a.eval y = vy at hy
  obtain rfl := hy.nilp_inv
  cases hx with
  | ptr _ _ b hloc =>
  split at h
  ·rename_i ht
   exact yields_eqp ho hex hey (run_eq_ptr_nil _ (E.C.ok ht).ptr) (.inl ⟨rfl,h⟩)
  ·rename_i ht
   exact yields_eqp ho hex hey (run_eq_ptr_nil _ (E.C.ok ht).ptr) (.inr ⟨rfl,h⟩)
  ·exact h.elim
 ·have hex := hx.nilp_inv
  have hey := hy.nilp_inv
  split at h
  ·rename_i ht
   exact yields_eqp ho hex hey (run_eq_ptr_nil _ (E.C.ok ht).ptr) (.inl ⟨rfl,h⟩)
  ·rename_i ht
   exact yields_eqp ho hex hey (run_eq_ptr_nil _ (E.C.ok ht).ptr) (.inr ⟨rfl,h⟩)
  ·exact h.elim
 ·rename_i ob off ob' off'
  generalize hex : a.eval x = vx at hx
  generalize hey : a.eval y = vy at hy
  cases hx with
  | ptr _ _ b hloc =>
  cases hy with
  | ptr _ _ b' hloc' =>
  split at h
  ·rename_i h1 h2 ht
   obtain rfl := Nat.eq_of_beq_eq_true h1
   obtain rfl := Nat.eq_of_beq_eq_true h2
   rw [hloc] at hloc'
   obtain rfl := Option.some.inj hloc'
   split at h
   ·rename_i he
    exact yields_eqp ho hex hey (run_eq_ptr_same _ (E.C.ok ht).ptr (E.C.ok he)) (.inl ⟨rfl,h⟩)
   ·exact h.elim
  ·rename_i h1 h2 ht
   obtain rfl := Nat.eq_of_beq_eq_true h1
   obtain rfl := Nat.eq_of_beq_eq_true h2
   rw [hloc] at hloc'
   obtain rfl := Option.some.inj hloc'
   split at h
   ·rename_i he
    exact yields_eqp ho hex hey (run_eq_ptr_same _ (E.C.ok ht).ptr (E.C.ok he)) (.inr ⟨rfl,h⟩)
   ·exact h.elim
  ·exact h.elim
 ·rename_i b c
  have ex := hx.bool_inv
  have ey := hy.bool_inv
  have hg : (eqGuard op t x y (.bool b) (.bool c)).run E.C.P w = .ok () w := by unfold eqGuard; split <;> simp
  split at h
  ·rename_i ht
   have hu := (E.C.ok ht).bool
   have hq : (Op.equal t (.bool b) (.bool c)).run E.C.P w = .ok (b == c) w := run_equal_bool w t b c hu
   cases op <;> simp only at h <;> first
    | exact h.elim
    | (exact Yields.same (by simp [execOp,ho,ex,ey,hg,binOp,hq]; rfl) (h.out _ rfl) (.p _ _ (.bool _)))
    | (exact Yields.same (by simp [execOp,ho,ex,ey,hg,binOp,hq]) (h.out _ rfl) (.p _ _ (.bool _)))
  ·exact h.elim
 ·exact yields_binA hs ho hx hy h
theorem load_core0 (hs : SimG E G S a w) {t : TypeId} {pv : Value} {vx : FV} (hne : ∀ o b off,vx ≠ .eptr o b off) (hx : RepF G w pv vx) (h : evLoad E.C S.objs t vx K) :
 ∃ ad v x,pv = .pointer (some ad) ∧ (loadVar t ad).run E.C.P w = .ok v w ∧ K x ∧ RepF G w v x := by
 unfold evLoad at h
 split at h
 ·exact h.elim
 ·rename_i i hi
  have hok := E.C.ok hi
  split at h
  ·rename_i ob off
   obtain ⟨b,hv,hloc⟩ := hx.ptr_inv
   split at h
   ·exact h.elim
   ·rename_i cells hcells
    obtain ⟨b',hb',hc⟩ := hs.objs _ _ hcells
    obtain rfl : b' = b := by rw [hloc] at hb'; exact (Option.some.inj hb').symm
    split at h
    ·rename_i hagg
     split at h
     ·exact h.elim
     ·rename_i cs hcs
      rw [dropN_eq] at hcs
      obtain ⟨rfl,hle⟩ := takeN_some hcs
      rw [List.length_drop] at hle
      have hget : ∀ j,j < i.size → ∃ c x,w.cell? ⟨b',off + j,none⟩ = some c ∧ cells[off + j]? = some x ∧ RepF G w c x := fun j hj => by
       have hl : off + j < cells.length := by omega
       obtain ⟨c,h1,h2⟩ := hc (off + j) _ (List.getElem?_eq_getElem hl)
       exact ⟨c,_,h1,List.getElem?_eq_getElem hl,h2⟩
      let f : Nat → Value := fun j => (w.cell? ⟨b',off + j,none⟩).getD undef
      have hf : ∀ j,j < i.size → w.cell? ((⟨b',off,none⟩ : Addr).add j) = some (f j) := fun j hj => by
       obtain ⟨c,x,h1,-⟩ := hget j hj
       rw [Addr.add_lit]; simp only [f,h1,Option.getD_some]
      have hrun := run_loadCells (P := E.C.P) w ⟨b',off,none⟩ i.size f hf
      refine ⟨_,.agg ((List.range i.size).map f).toArray,_,hv,by simp [loadVar,hok.isAgg,hagg,hok.sizeOf,hrun],h,?_⟩
      refine .agg _ _ (by simp; omega) fun j c x hj hx => ?_
      have hj' : j < i.size := by
       have := (List.getElem?_eq_some_iff.1 hj).1
       simpa using this
      obtain ⟨c',x',h1,h2,h3⟩ := hget j hj'
      rw [List.getElem?_take_of_lt hj',List.getElem?_drop,h2] at hx
      obtain rfl := Option.some.inj hx
      rw [List.getElem?_map,List.getElem?_range hj'] at hj
      simp only [Option.map_some,Option.some.injEq,f,h1,Option.getD_some] at hj
      exact hj ▸ h3
    ·rename_i hagg
     split at h
     ·exact h.elim
     ·rename_i y ys hys
      have hy := dropN_head hys
      obtain ⟨c,h1,h2⟩ := hc off y hy
      exact ⟨_,_,_,hv,by simp [loadVar,hok.isAgg,hagg,h1],h,h2⟩
  ·rename_i xs
   obtain ⟨b,off,hv,hc⟩ := hx.plain.imp_inv
   split at h
   ·rename_i hagg
    split at h
    ·exact h.elim
    ·rename_i cs hcs
     obtain ⟨rfl,hle⟩ := takeA_some hcs
     have hget : ∀ j,j < i.size → ∃ c x,w.cell? ⟨b,off + j,none⟩ = some c ∧ xs[j]? = some x ∧ x.one = true ∧ Rep G.imm w c x := fun j hj => by
      have hl : j < xs.length := by omega
      obtain ⟨c,h0,h1,-,h2⟩ := hc j _ (List.getElem?_eq_getElem hl)
      exact ⟨c,_,h1,List.getElem?_eq_getElem hl,h0,h2⟩
     let f : Nat → Value := fun j => (w.cell? ⟨b,off + j,none⟩).getD undef
     have hf : ∀ j,j < i.size → w.cell? ((⟨b,off,none⟩ : Addr).add j) = some (f j) := fun j hj => by
      obtain ⟨c,x,h1,-⟩ := hget j hj
      rw [Addr.add_lit]; simp only [f,h1,Option.getD_some]
     have hrun := run_loadCells (P := E.C.P) w ⟨b,off,none⟩ i.size f hf
     refine ⟨_,.agg ((List.range i.size).map f).toArray,_,hv,by simp [loadVar,hok.isAgg,hagg,hok.sizeOf,hrun],h,?_⟩
     refine .p _ _ (.agg _ _ (by simp; omega) (fun x hx => ?_) fun j c x hj hx => ?_)
     ·obtain ⟨j,hj⟩ := List.mem_iff_getElem?.1 hx
      have hj' : j < i.size := by
       have := (List.getElem?_eq_some_iff.1 hj).1
       simp at this; omega
      obtain ⟨c',x',h1,h2,h3,-⟩ := hget j hj'
      rw [List.getElem?_take_of_lt hj',h2] at hj
      obtain rfl := Option.some.inj hj
      exact h3
     ·have hj' : j < i.size := by
       have := (List.getElem?_eq_some_iff.1 hj).1
       simpa using this
      obtain ⟨c',x',h1,h2,-,h3⟩ := hget j hj'
      rw [List.getElem?_take_of_lt hj',h2] at hx
      obtain rfl := Option.some.inj hx
      rw [List.getElem?_map,List.getElem?_range hj'] at hj
      simp only [Option.map_some,Option.some.injEq,f,h1,Option.getD_some] at hj
      exact hj ▸ h3
   ·rename_i hagg
    split at h
    ·exact h.elim
    ·rename_i y ys
     obtain ⟨c,h0,h1,-,h2⟩ := hc 0 y rfl
     exact ⟨_,_,_,hv,by simp at h1; simp [loadVar,hok.isAgg,hagg,h1],h,.p _ _ h2⟩
  ·exact absurd rfl (hne _ _ _)
  ·exact h.elim
theorem RepF.eptr_inv {v : Value} {o base off : Nat} (h : RepF G w v (.eptr o base off)) : RepF G w v (.ptr o (base + off)) := by
 cases h with
 | eptr _ _ _ b h => exact .ptr o (base + off) b h
theorem drop_mid {A ys B : List FV} {base off : Nat} (hA : A.length = base) (h : off ≤ ys.length) : (A ++ (ys ++ B)).drop (base + off) = ys.drop off ++ B := by
 rw [List.drop_append,hA,show base + off - base = off by omega,List.drop_of_length_le (show A.length ≤ base + off by omega),List.nil_append,List.drop_append_of_le_length h]
theorem takeN_of {n : Nat} {xs : List FV} (h : n ≤ xs.length) : takeN n xs = some (xs.take n) := by
 induction n generalizing xs with
 | zero => simp [takeN]
 | succ n ih =>
   cases xs with
   | nil => simp at h
   | cons x xs => simp only [takeN,ih (by simpa using h),List.take_succ_cons]
theorem load_core (hs : SimG E G S a w) {t : TypeId} {pv : Value} {vx : FV} (hx : RepF G w pv vx) (h : evLoad E.C S.objs t vx K) :
 ∃ ad v x,pv = .pointer (some ad) ∧ (loadVar t ad).run E.C.P w = .ok v w ∧ K x ∧ RepF G w v x := by
 by_cases hne : ∀ o b off,vx ≠ .eptr o b off
 ·exact load_core0 hs hne hx h
 ·have : ∃ o b off,vx = .eptr o b off := by
   cases vx <;> first | exact ⟨_,_,_,rfl⟩ | exact absurd (fun _ _ _ e => by cases e) hne
  obtain ⟨o,base,off,rfl⟩ := this
  refine load_core0 hs (fun _ _ _ e => by cases e) hx.eptr_inv ?_
  unfold evLoad at h ⊢
  split at h
  ·exact h.elim
  ·rename_i i hi
   simp only at h ⊢
   split at h
   ·exact h.elim
   ·rename_i cells hc
    obtain ⟨A,ys,B,hcells,hA,h⟩ := h
    split at h
    ·rename_i hagg
     split at h
     ·exact h.elim
     ·rename_i cs hcs
      rw [dropN_eq] at hcs ⊢
      obtain ⟨rfl,hle⟩ := takeN_some hcs
      rw [List.length_drop] at hle
      have : takeN i.size ((A ++ (ys ++ B)).drop (base + off)) = some ((ys.drop off).take i.size) := by
       by_cases hl : off ≤ ys.length
       ·rw [drop_mid hA hl,takeN_of (by simp; omega),List.take_append_of_le_length (by simp; omega)]
       ·have h0 : i.size = 0 := by omega
        rw [h0]
        simp [takeN]
      rw [hcells,this]
      exact h
    ·rename_i hagg
     split at h
     ·exact h.elim
     ·rename_i y zs hzs
      rw [dropN_eq] at hzs ⊢
      have hl : off ≤ ys.length := by
       have := congrArg List.length hzs
       simp at this
       omega
      rw [hcells,drop_mid hA hl,hzs]
      exact h
theorem yields_load (hs : SimG E G S a w) {t : TypeId} {x : Operand} (ho : o.op = .load t x) (h : evLoad E.C S.objs t (S.val x) K) : Yields E G a w o K := by
 obtain ⟨ad,v,y,h1,h2,h3,h4⟩ := load_core hs (RepF.val hs x) h
 exact Yields.same (by simp [execOp,ho,h1,Instr.loadAt,Instr.sureAddr,h2]) h3 h4
end
end Qv

end

section
namespace Qv
open Go Go.RowKit
section
variable {E : Env} {G : Ghost} {S : ASt} {a : Act} {w : World} {o : Oper} {K : FV → Prop}
theorem yields_pick (hs : SimG E G S a w) {c x y : Operand} (ho : o.op = .pick c x y)
 (h : match S.val c with | .p (.bool true) => force (S.val x) K | .p (.bool false) => force (S.val y) K | _ => False) : Yields E G a w o K := by
 have hc := RepF.val hs c
 generalize S.val c = vc at h hc
 split at h
 ·rw [force_eq] at h
  exact Yields.same (by simp [execOp,ho,hc.bool_inv,asBool]) h (RepF.val hs x)
 ·rw [force_eq] at h
  exact Yields.same (by simp [execOp,ho,hc.bool_inv,asBool]) h (RepF.val hs y)
 ·exact h.elim
theorem yields_unOp (hs : SimG E G S a w) {op : UnOp} {t : TypeId} {x : Operand} (ho : o.op = .unOp op t x)
 (h : evUn op (S.val x) K) : Yields E G a w o K := by
 have hx := RepF.val hs x
 generalize S.val x = vx at h hx
 have hd : (op = .not ∧ ∃ b,vx = .p (.bool b) ∧ (Al fun t : Bool => t = !b → K (.p (.bool t)))) ∨ (op = .neg ∧ ∃ k n,vx = .p (.int k n) ∧ ∃ c,k.wrap (0 - n) = c ∧ K (.p (.int k c))) := by
  unfold evUn at h
  split at h
  ·exact .inl ⟨rfl,_,rfl,h⟩
  ·exact .inr ⟨rfl,_,_,rfl,h⟩
  ·exact h.elim
 rcases hd with ⟨rfl,b,rfl,h⟩ | ⟨rfl,k,n,rfl,c,rfl,h⟩
 ·have ex := hx.bool_inv
  exact Yields.same (v := .bool !b) (by simp [execOp,ho,ex,Op.unary]) (h.out _ rfl) (.p _ _ (.bool _))
 ·have ex := hx.int_inv
  exact Yields.same (v := .int k (k.wrap (0 - n))) (by simp [execOp,ho,ex,Op.unary,Op.intArith]) h (.p _ _ (.int _ _))
theorem foldl_push (bs : List UInt8) : ∀ (r : ByteArray),(bs.map fun b => (b.toNat : Int)).foldl (fun r n => r.push (UInt8.ofNat n.toNat)) r = ⟨r.data ++ bs.toArray⟩ := by
 induction bs with
 | nil => intro r; cases r; simp
 | cons b bs ih =>
   intro r
   rw [List.map_cons,List.foldl_cons,ih]
   cases r
   simp [ByteArray.push]
theorem yields_convert (hs : SimG E G S a w) {src dst : TypeId} {x : Operand} (ho : o.op = .convert src dst x) (h : evConv E.C src dst (S.val x) K) : Yields E G a w o K := by
 have hx := RepF.val hs x
 generalize S.val x = vx at h hx
 unfold evConv at h
 split at h
 ·exact h.elim
 ·rename_i a0 b0 sh z0 hi
  obtain ⟨d,hd,hsh⟩ := (E.C.ok hi).und'
  split at h
  ·rename_i hd'
   have hu := (E.C.ok hd').int
   split at h
   ·have ex := hx.int_inv
    obtain ⟨c,rfl,h⟩ := h
    exact Yields.same (by simp [execOp,ho,ex,convert,run_underlying hd,run_underlying hu,Conv.intToInt]) h (.p _ _ (.int _ _))
   ·exact h.elim
  ·rename_i hd'
   have hu := (E.C.ok hd').str
   split at h
   ·have ex := hx.str_inv
    exact Yields.same (by simp [execOp,ho,ex,convert,run_underlying hd,run_underlying hu]) h (.p _ _ (.str _))
   ·have ex := hx.int_inv
    obtain ⟨c,rfl,hc,h⟩ := h
    have henc : Utf8.encode (c.toNat : Int) = ⟨#[c]⟩ := by
     have hv : Utf8.valid (c.toNat : Int) = true := by simp [Utf8.valid]; omega
     unfold Utf8.encode
     simp only [hv,if_true,Int.toNat_natCast,hc]
     simp
    refine Yields.same (v := .string ⟨[c].toArray⟩) ?_ h (.p _ _ (.str _))
    simp [execOp,ho,ex,convert,run_underlying hd,run_underlying hu,Conv.intToString,henc]
   ·unfold evBytes at h
    split at h
    ·rename_i e xs hxs
     split at h
     ·rename_i by0 z1 he
      obtain ⟨bs,rfl,h⟩ := h
      have hse := (E.C.ok hi).slice
      have hue := (E.C.ok he).int
      obtain ⟨ad,c,hv,hcap,hne⟩ := (hx.elems hxs).sl_inv
      have hl : (bs.map fun b => [AV.int .u8 (b.toNat : Int)]).length = bs.length := by simp
      rw [hl] at hv
      refine Yields.same (v := .string ⟨bs.toArray⟩) ?_ h (.p _ _ (.str _))
      have hrun : (Conv.bytesToString (.slice ad bs.length c)).run E.C.P w = .ok (.string ⟨bs.toArray⟩) w := by
       by_cases h0 : bs = []
       ·subst h0
        cases ad with
        | none => simp [Conv.bytesToString]; rfl
        | some ad => simp [Conv.bytesToString,loadCells,loadCellsFrom]; rfl
       ·obtain ⟨b,off,esz,cell,rfl,g1,g2⟩ := hne (by simpa using h0)
        have hpos : 0 < bs.length := List.length_pos_iff.2 h0
        have he1 : esz = 1 := (g1 0 [AV.int .u8 (bs[0].toNat : Int)] (by simp [hpos])).symm
        subst he1
        have hcell : ∀ q,q < bs.length → w.cell? ((⟨b,off,none⟩ : Addr).add q) = some (((bs.map fun b => (b.toNat : Int))[q]?).elim undef (Value.int .u8)) := fun q hq => by
         obtain ⟨-,g3,-,g4⟩ := g2 q [AV.int .u8 (bs[q].toNat : Int)] 0 _ (by simp [hq]) rfl
         rw [Addr.add_lit,show off + q = off + q * 1 + 0 from by omega,g3]
         generalize cell q 0 = cc at g4
         cases g4
         simp [hq]
        have := run_loadCells (P := E.C.P) w ⟨b,off,none⟩ bs.length _ hcell
        have hload : (loadCells ⟨b,off,none⟩ bs.length).run E.C.P w = .ok ((bs.map fun b => (b.toNat : Int)).map (Value.int .u8)).toArray w := by
         rw [this]
         congr 1
         apply Array.toList_inj.1
         apply List.ext_getElem?
         intro q
         by_cases hq : q < bs.length
         ·simp [hq]
         ·simp [hq]
        rw [run_bytesToString w _ _ _ _ hload,foldl_push]
        congr 2
        simp
      simp [execOp,ho,hv,run_convert_bytes_string w src dst e ad bs.length c hse hue hu,hrun]
     ·exact h.elim
    ·exact h.elim
  ·exact h.elim
theorem yields_makeInterface (hs : SimG E G S a w) {t : TypeId} {x : Operand} (ho : o.op = .makeInterface t x)
 (h : match tabGet E.C.tab t with
  | some ⟨_,_,.iface,_⟩ => False
  | some _ => match (S.val x).toAV with
    | some y => K (.p (.iface t y))
    | none => False
  | none => False) : Yields E G a w o K := by
 have hx := RepF.val hs x
 generalize S.val x = vx at h hx
 split at h
 ·exact h.elim
 ·rename_i i hne hi
  obtain ⟨d,hd,hsh⟩ := (E.C.ok hi).und'
  split at h
  ·rename_i y hy
   have hr := hx.toAV hy
   refine Yields.same (v := .iface t (a.eval x)) ?_ h (.p _ _ (.iface _ _ _ hr))
   cases d <;> first
    | (simp [execOp,ho,Instr.makeInterface,run_underlying hd]; done)
    | (exfalso; obtain ⟨s,b,sh,z⟩ := i; simp only [shapeOf] at hsh; subst hsh; exact hne _ _ _ rfl)
  ·exact h.elim
 ·exact h.elim
theorem yields_makeFunc (hs : SimG E G S a w) {fn : Fn} {first captured : Array Operand} (ho : o.op = .makeFunc fn first captured)
 (h : K (.fn fn (first.toList.map S.val) (captured.toList.map S.val))) : Yields E G a w o K := by
 refine Yields.same (v := .func fn (first.toList.map a.eval).toArray (captured.toList.map a.eval).toArray) ?_ h (.fn fn _ _ _ _ (by simp) (by simp) (fun i c x hc hx => ?_) (fun i c x hc hx => ?_))
 ·simp [execOp,ho,Instr.makeFunc,← List.map_toArray]
 ·rw [List.getElem?_map] at hc hx
  cases h0 : first.toList[i]? with
  | none => simp [h0] at hc
  | some y => simp [h0] at hc hx; subst hc; subst hx; exact RepF.val hs y
 ·rw [List.getElem?_map] at hc hx
  cases h0 : captured.toList[i]? with
  | none => simp [h0] at hc
  | some y => simp [h0] at hc hx; subst hc; subst hx; exact RepF.val hs y
theorem yields_nilCheck (hs : SimG E G S a w) {x : Operand} (ho : o.op = .nilCheck x)
 (h : match S.val x with
  | .ptr b off => K (.ptr b off)
  | .p (.imp xs) => K (.p (.imp xs))
  | .eptr o base off => K (.eptr o base off)
  | .p (.fn (.func f) a b) => K (.p (.fn (.func f) a b))
  | .fn (.func f) a b => K (.fn (.func f) a b)
  | _ => False) : Yields E G a w o K := by
 have hx := RepF.val hs x
 generalize S.val x = vx at h hx
 split at h
 ·obtain ⟨b,hv,-⟩ := hx.ptr_inv
  exact Yields.same (by simp [execOp,ho,hv]) h (hv ▸ hx)
 ·obtain ⟨b,off,hv,-⟩ := hx.plain.imp_inv
  exact Yields.same (by simp [execOp,ho,hv]) h (hv ▸ hx)
 ·obtain ⟨b,hv,-⟩ := hx.eptr_inv.ptr_inv
  exact Yields.same (by simp [execOp,ho,hv]) h (hv ▸ hx)
 ·have h1 := hx.plain
  generalize hv : a.eval x = v at hx h1
  cases h1
  exact Yields.same (by simp [execOp,ho,hv]) h hx
 ·generalize hv : a.eval x = v at hx
  have hx' := hx
  cases hx'
  exact Yields.same (by simp [execOp,ho,hv]) h hx
 ·exact h.elim
theorem run_fieldPlace {P : Program} {w : World} {b off : Nat} {g : Field} {n : Nat} (h : (Go.sizeOf g.type).run P w = .ok n w) (hn : n ≠ 0) :
 (fieldPlace ⟨b,off,none⟩ g).run P w = .ok ⟨b,off + g.offset,none⟩ w := by
 simp [fieldPlace,h,hn,Addr.add_lit]
theorem yields_fieldAddr (hs : SimG E G S a w) {s : TypeId} {x : Operand} {f : Nat} (ho : o.op = .fieldAddr s x f) (h : evFieldAddr E.C s (S.val x) f K) : Yields E G a w o K := by
 have hx := RepF.val hs x
 generalize S.val x = vx at h hx
 unfold evFieldAddr at h
 split at h
 ·rename_i hi
  split at h
  ·exact h.elim
  ·rename_i off' t r hd
   obtain ⟨gs,g,h1,h2,h3,h4⟩ := (E.C.ok hi).field hd
   split at h
   ·exact h.elim
   ·rename_i j hj
    split at h
    ·exact h.elim
    ·rename_i n hn
     have hsz := (E.C.ok hj).sizeOf w
     rw [← h4] at hsz
     split at h
     ·rename_i b0 off
      obtain ⟨b,hv,hl⟩ := hx.ptr_inv
      refine Yields.same (v := .pointer (some ⟨b,off + off',none⟩)) ?_ h (.ptr _ _ _ hl)
      simp [execOp,ho,hv,Instr.fieldAt,run_underlying h1,h2,Instr.sureAddr,run_fieldPlace hsz (by omega),h3]
     ·rename_i xs
      obtain ⟨b,off,hv,hc⟩ := hx.plain.imp_inv
      refine Yields.same (v := .pointer (some ⟨b,off + off',none⟩)) ?_ h (.p _ _ (Rep.imp_mk fun k y hy => ?_))
      ·simp [execOp,ho,hv,Instr.fieldAt,run_underlying h1,h2,Instr.sureAddr,run_fieldPlace hsz (by omega),h3]
      ·rw [dropN_eq,List.getElem?_drop] at hy
       obtain ⟨c,h5,h6,h7,h8⟩ := hc _ _ hy
       rw [← Nat.add_assoc] at h6 h7
       exact ⟨c,h5,h6,h7,h8⟩
     ·rename_i b0 base off
      obtain ⟨b,hv,hl⟩ := hx.eptr_inv.ptr_inv
      refine Yields.same (v := .pointer (some ⟨b,base + (off + off'),none⟩)) ?_ h (.eptr _ _ _ _ hl)
      simp [execOp,ho,hv,Instr.fieldAt,run_underlying h1,h2,Instr.sureAddr,run_fieldPlace hsz (by omega),h3,Nat.add_assoc]
     ·exact h.elim
 ·exact h.elim
theorem part_agg {P : Program} {w : World} {t : TypeId} {i : TInfo} (hok : TabOK P t i) (hagg : i.shape.isAgg = true) (cs : Array Value) (off : Nat) :
 (part t cs off).run P w = .ok (.agg (cs.extract off (off + i.size))) w := by
 simp [part,hok.isAgg,hagg,hok.sizeOf]
theorem part_one {P : Program} {w : World} {t : TypeId} {i : TInfo} (hok : TabOK P t i) (hagg : i.shape.isAgg = false) (cs : Array Value) (off : Nat) (v : Value) (hv : cs[off]? = some v) :
 (part t cs off).run P w = .ok v w := by
 simp [part,hok.isAgg,hagg,hv]
theorem yields_field (hs : SimG E G S a w) {s : TypeId} {x : Operand} {f : Nat} (ho : o.op = .field s x f) (h : evField E.C s (S.val x) f K) : Yields E G a w o K := by
 have hx := RepF.val hs x
 generalize S.val x = vx at h hx
 unfold evField at h
 split at h
 ·rename_i hi
  split at h
  ·exact h.elim
  ·rename_i off' t r hd
   obtain ⟨gs,g,h1,h2,h3,h4⟩ := (E.C.ok hi).field hd
   split at h
   ·exact h.elim
   ·rename_i j hj
    have hok := E.C.ok hj
    subst h3; subst h4
    split at h
    ·rename_i xs
     generalize hv : a.eval x = v at hx
     cases hx with
     | agg cs xs hl hc =>
     split at h
     ·rename_i hagg
      split at h
      ·rename_i ys hys
       rw [dropN_eq] at hys
       obtain ⟨rfl,hle⟩ := takeN_some hys
       refine Yields.same (v := .agg ((cs.drop g.offset).take j.size).toArray) ?_ h (.agg _ _ (by simp [hl]) fun k c y hk hy => ?_)
       ·have e1 : cs.toArray.extract g.offset (g.offset + j.size) = ((cs.drop g.offset).take j.size).toArray := by
         simp [List.extract_toArray,List.extract_eq_take_drop]
        simp [execOp,ho,hv,Instr.field,run_underlying h1,h2,asAgg,part_agg hok hagg,e1]
       ·rw [List.getElem?_take] at hk hy
        split at hk
        ·rename_i hlt
         rw [if_pos hlt,List.getElem?_drop] at hy
         rw [List.getElem?_drop] at hk
         exact hc _ _ _ hk hy
        ·cases hk
      ·exact h.elim
     ·rename_i hagg
      split at h
      ·rename_i y ys hys
       have hy := dropN_head hys
       have hlt : g.offset < cs.length := by rw [hl]; exact (List.getElem?_eq_some_iff.1 hy).1
       refine Yields.same (v := cs[g.offset]) ?_ h (hc _ _ _ (List.getElem?_eq_getElem hlt) hy)
       simp [execOp,ho,hv,Instr.field,run_underlying h1,h2,asAgg,part_one hok hagg cs.toArray g.offset cs[g.offset] (by simp [hlt])]
      ·exact h.elim
    ·rename_i xs
     have hx := hx.plain
     generalize hv : a.eval x = v at hx
     cases hx with
     | agg cs xs hl hone hc =>
     split at h
     ·rename_i hagg
      split at h
      ·rename_i ys hys
       rw [dropN_eq] at hys
       obtain ⟨rfl,hle⟩ := takeA_some hys
       refine Yields.same (v := .agg ((cs.drop g.offset).take j.size).toArray) ?_ h (.p _ _ (.agg _ _ (by simp [hl]) (fun z hz => hone z (List.mem_of_mem_drop (List.mem_of_mem_take hz))) fun k c y hk hy => ?_))
       ·have e1 : cs.toArray.extract g.offset (g.offset + j.size) = ((cs.drop g.offset).take j.size).toArray := by
         simp [List.extract_toArray,List.extract_eq_take_drop]
        simp [execOp,ho,hv,Instr.field,run_underlying h1,h2,asAgg,part_agg hok hagg,e1]
       ·rw [List.getElem?_take] at hk hy
        split at hk
        ·rename_i hlt
         rw [if_pos hlt,List.getElem?_drop] at hy
         rw [List.getElem?_drop] at hk
         exact hc _ _ _ hk hy
        ·cases hk
      ·exact h.elim
     ·rename_i hagg
      split at h
      ·rename_i y ys hys
       have hy := dropN_head hys
       have hlt : g.offset < cs.length := by rw [hl]; exact (List.getElem?_eq_some_iff.1 hy).1
       refine Yields.same (v := cs[g.offset]) ?_ h (.p _ _ (hc _ _ _ (List.getElem?_eq_getElem hlt) hy))
       simp [execOp,ho,hv,Instr.field,run_underlying h1,h2,asAgg,part_one hok hagg cs.toArray g.offset cs[g.offset] (by simp [hlt])]
      ·exact h.elim
    ·exact h.elim
 ·exact h.elim
theorem asIntOf_int {P : Program} {w : World} (k : IntKind) (n : Int) : (asIntOf (.int k n)).run P w = .ok (k,n) w := rfl
theorem yields_indexAddr (hs : SimG E G S a w) {t : TypeId} {x i : Operand} (ho : o.op = .indexAddr t x i) (h : evIndexAddr E.C S.objs t (S.val x) (S.val i) K) : Yields E G a w o K := by
 have hx := RepF.val hs x
 have hi := RepF.val hs i
 generalize S.val x = vx at h hx
 generalize S.val i = vi at h hi
 unfold evIndexAddr at h
 split at h
 ·rename_i k n
  have ei := hi.int_inv
  split at h
  ·rename_i e _ ht
   have hu := (E.C.ok ht).slice
   split at h
   ·exact h.elim
   ·rename_i j hj
    have hsz := (E.C.ok hj).sizeOf w
    split at h
    ·rename_i ob T esz
     split at h
     ·rename_i cells hcells hbe
      obtain ⟨m,base,rfl,rfl,hle,h⟩ := h
      have hbe := Nat.eq_of_beq_eq_true hbe
      generalize hv : a.eval x = v at hx
      cases hx with
      | osl _ _ _ n c b h1 h2 h3 h4 =>
      obtain ⟨-,-,h5⟩ := hs.locTail _ _ _ _ h1 h2
      have h6 := h5 cells hcells
      simp only at h6
      have hlt : m < n := by
       rw [h6] at hle
       have : (m + 1) * esz ≤ n * esz := by rw [Nat.add_mul,Nat.one_mul]; exact hle
       exact Nat.le_of_mul_le_mul_right this h4
      refine Yields.same (v := .pointer (some ⟨b,m * esz + 0,none⟩)) ?_ h (.eptr _ _ _ _ h1)
      have hin : (0 : Int) ≤ (m : Int) ∧ (m : Int) < (n : Int) := ⟨by omega,by omega⟩
      simp [execOp,ho,ei,hv,Instr.indexAt,asIntOf_int,run_underlying hu,hin,hsz,Addr.add_lit,hbe]
     ·exact h.elim
    split at h
    ·exact h.elim
    ·rename_i xs hxs
     obtain ⟨h0,ys,hys,hlen,h⟩ := h
     obtain ⟨ad,c,hv,hcap,hne⟩ := (hx.elems hxs).sl_inv
     have hlt : n.toNat < xs.length := (List.getElem?_eq_some_iff.1 hys).1
     obtain ⟨b,off,esz,cell,rfl,h1,h2⟩ := hne (by intro e; rw [e] at hlt; simp at hlt)
     have hesz : esz = j.size := (h1 _ _ hys).symm.trans hlen
     refine Yields.same (v := .pointer (some ⟨b,off + n.toNat * esz,none⟩)) ?_ h (.p _ _ (Rep.imp_mk fun m y hy => ?_))
     ·have hin : 0 ≤ n ∧ n < (xs.length : Int) := ⟨h0,by omega⟩
      simp [execOp,ho,ei,hv,Instr.indexAt,asIntOf_int,run_underlying hu,hin,hsz,Addr.add_lit,hesz]
     ·obtain ⟨h3,h4,h5,h6⟩ := h2 _ _ _ _ hys hy
      exact ⟨_,h3,h4,h5,h6⟩
  ·rename_i len e _ ht
   have hu := (E.C.ok ht).array
   split at h
   ·exact h.elim
   ·rename_i j hj
    have hsz := (E.C.ok hj).sizeOf w
    obtain ⟨m,rfl,hm,h⟩ := h
    have hin : (0 : Int) ≤ (m : Int) ∧ (m : Int) < (len : Int) := ⟨by omega,by omega⟩
    split at h
    ·rename_i b0 off
     obtain ⟨b,hv,hl⟩ := hx.ptr_inv
     obtain ⟨sym,h⟩ := h
     cases sym with
     | true =>
       obtain ⟨base,rfl,h⟩ := h
       exact Yields.same (v := .pointer (some ⟨b,off + m * j.size + 0,none⟩)) (by simp [execOp,ho,ei,hv,Instr.indexAt,asIntOf_int,run_underlying hu,Instr.sureAddr,hin,hsz,Addr.add_lit]) h (.eptr _ _ _ _ hl)
     | false => exact Yields.same (v := .pointer (some ⟨b,off + m * j.size,none⟩)) (by simp [execOp,ho,ei,hv,Instr.indexAt,asIntOf_int,run_underlying hu,Instr.sureAddr,hin,hsz,Addr.add_lit]) h (.ptr _ _ _ hl)
    ·rename_i b0 b1 off
     obtain ⟨b,hv,hl⟩ := hx.eptr_inv.ptr_inv
     obtain ⟨base,rfl,h⟩ := h
     refine Yields.same (v := .pointer (some ⟨b,b1 + (off + m * j.size) + 0,none⟩)) ?_ h (.eptr _ _ _ _ hl)
     simp [execOp,ho,ei,hv,Instr.indexAt,asIntOf_int,run_underlying hu,Instr.sureAddr,hin,hsz,Addr.add_lit,Nat.add_assoc]
    ·rename_i xs
     obtain ⟨b,off,hv,hc⟩ := hx.plain.imp_inv
     obtain ⟨ys,rfl,h⟩ := h
     refine Yields.same (v := .pointer (some ⟨b,off + m * j.size,none⟩)) ?_ h (.p _ _ (Rep.imp_mk fun k y hy => ?_))
     ·simp [execOp,ho,ei,hv,Instr.indexAt,asIntOf_int,run_underlying hu,Instr.sureAddr,hin,hsz,Addr.add_lit]
     ·rw [dropN_eq,List.getElem?_drop] at hy
      obtain ⟨c,h5,h6,h7,h8⟩ := hc _ _ hy
      rw [← Nat.add_assoc] at h6 h7
      exact ⟨c,h5,h6,h7,h8⟩
    ·exact h.elim
  ·exact h.elim
 ·exact h.elim
theorem yields_index (hs : SimG E G S a w) {t : TypeId} {x i : Operand} (ho : o.op = .index t x i) (h : evIndex E.C t (S.val x) (S.val i) K) : Yields E G a w o K := by
 have hx := RepF.val hs x
 have hi := RepF.val hs i
 generalize S.val x = vx at h hx
 generalize S.val i = vi at h hi
 unfold evIndex at h
 split at h
 ·rename_i k n
  have ei := hi.int_inv
  split at h
  ·rename_i ht
   have hu := (E.C.ok ht).str
   split at h
   ·rename_i s
    have ex := hx.str_inv
    obtain ⟨h0,c,hc,h⟩ := h
    have hlt := (List.getElem?_eq_some_iff.1 hc).1
    have hg : (⟨s.toArray⟩ : ByteArray)[n.toNat]? = some c := by
     have : n.toNat < (⟨s.toArray⟩ : ByteArray).size := by simpa [ByteArray.size] using hlt
     refine (getElem?_pos (⟨s.toArray⟩ : ByteArray) n.toNat this).trans ?_
     have h2 := List.getElem?_eq_some_iff.1 hc
     simpa [ByteArray.getElem_eq_getElem_data] using h2.2
    exact Yields.same (v := .int .u8 c.toNat) (by simp [execOp,ho,ei,ex,Instr.index,asIntOf_int,run_underlying hu,h0,hg]) h (.p _ _ (.int _ _))
   ·exact h.elim
  ·rename_i len e _ ht
   have hu := (E.C.ok ht).array
   split at h
   ·exact h.elim
   ·rename_i j hj
    have hok := E.C.ok hj
    split at h
    ·rename_i hagg
     obtain ⟨m,rfl,hm,h⟩ := h
     have h0 : (0 : Int) ≤ (m : Int) := by omega
     split at h
     ·rename_i xs
      generalize hv : a.eval x = v at hx
      cases hx with
      | agg cs xs hl hc =>
      split at h
      ·rename_i ys hys
       rw [dropN_eq] at hys
       obtain ⟨rfl,hle⟩ := takeN_some hys
       refine Yields.same (v := .agg ((cs.drop (m * j.size)).take j.size).toArray) ?_ h (.agg _ _ (by simp [hl]) fun k c y hk hy => ?_)
       ·have e1 : cs.toArray.extract (m * j.size) (m * j.size + j.size) = ((cs.drop (m * j.size)).take j.size).toArray := by
         simp [List.extract_toArray,List.extract_eq_take_drop]
        simp [execOp,ho,hv,ei,Instr.index,asIntOf_int,run_underlying hu,h0,hm,hok.sizeOf,part_agg hok hagg,e1]
       ·rw [List.getElem?_take] at hk hy
        split at hk
        ·rename_i hlt
         rw [if_pos hlt,List.getElem?_drop] at hy
         rw [List.getElem?_drop] at hk
         exact hc _ _ _ hk hy
        ·cases hk
      ·exact h.elim
     ·rename_i xs
      have hx := hx.plain
      generalize hv : a.eval x = v at hx
      cases hx with
      | agg cs xs hl hone hc =>
      split at h
      ·rename_i ys hys
       rw [dropN_eq] at hys
       obtain ⟨rfl,hle⟩ := takeA_some hys
       refine Yields.same (v := .agg ((cs.drop (m * j.size)).take j.size).toArray) ?_ h (.p _ _ (.agg _ _ (by simp [hl]) (fun z hz => hone z (List.mem_of_mem_drop (List.mem_of_mem_take hz))) fun k c y hk hy => ?_))
       ·have e1 : cs.toArray.extract (m * j.size) (m * j.size + j.size) = ((cs.drop (m * j.size)).take j.size).toArray := by
         simp [List.extract_toArray,List.extract_eq_take_drop]
        simp [execOp,ho,hv,ei,Instr.index,asIntOf_int,run_underlying hu,h0,hm,hok.sizeOf,part_agg hok hagg,e1]
       ·rw [List.getElem?_take] at hk hy
        split at hk
        ·rename_i hlt
         rw [if_pos hlt,List.getElem?_drop] at hy
         rw [List.getElem?_drop] at hk
         exact hc _ _ _ hk hy
        ·cases hk
      ·exact h.elim
     ·exact h.elim
    ·rename_i hagg
     obtain ⟨m,rfl,hm,h⟩ := h
     have h0 : (0 : Int) ≤ (m : Int) := by omega
     have h1 : (m : Int) < (len : Int) := by omega
     split at h
     ·rename_i xs
      generalize hv : a.eval x = v at hx
      cases hx with
      | agg cs xs hl hc =>
      split at h
      ·rename_i y ys hys
       have hy := dropN_head hys
       have hlt : m * j.size < cs.length := by rw [hl]; exact (List.getElem?_eq_some_iff.1 hy).1
       refine Yields.same (v := cs[m * j.size]) ?_ h (hc _ _ _ (List.getElem?_eq_getElem hlt) hy)
       simp [execOp,ho,hv,ei,Instr.index,asIntOf_int,run_underlying hu,h0,hm,hok.sizeOf,part_one hok hagg cs.toArray (m * j.size) cs[m * j.size] (by simp [hlt])]
      ·exact h.elim
     ·rename_i xs
      have hx := hx.plain
      generalize hv : a.eval x = v at hx
      cases hx with
      | agg cs xs hl hone hc =>
      split at h
      ·rename_i y ys hys
       have hy := dropN_head hys
       have hlt : m * j.size < cs.length := by rw [hl]; exact (List.getElem?_eq_some_iff.1 hy).1
       refine Yields.same (v := cs[m * j.size]) ?_ h (.p _ _ (hc _ _ _ (List.getElem?_eq_getElem hlt) hy))
       simp [execOp,ho,hv,ei,Instr.index,asIntOf_int,run_underlying hu,h0,hm,hok.sizeOf,part_one hok hagg cs.toArray (m * j.size) cs[m * j.size] (by simp [hlt])]
      ·exact h.elim
     ·exact h.elim
  ·exact h.elim
 ·exact h.elim
theorem yields_extract (hs : SimG E G S a w) {x : Operand} {i : Nat} (ho : o.op = .extract x i)
 (h : match S.val x with
  | .tup xs => match dropN i xs with
    | y :: _ => K y
    | [] => False
  | .p (.tup xs) => match dropN i xs with
    | y :: _ => K (.p y)
    | [] => False
  | _ => False) : Yields E G a w o K := by
 have hx := RepF.val hs x
 generalize S.val x = vx at h hx
 split at h
 ·generalize hv : a.eval x = v at hx
  cases hx with
  | tup cs xs hl hc =>
  split at h
  ·rename_i y ys hys
   have hy := dropN_head hys
   have hlt : i < cs.length := by rw [hl]; exact (List.getElem?_eq_some_iff.1 hy).1
   exact Yields.same (v := cs[i]) (by simp [execOp,ho,hv,Instr.extract,hlt]) h (hc _ _ _ (List.getElem?_eq_getElem hlt) hy)
  ·exact h.elim
 ·have hx := hx.plain
  generalize hv : a.eval x = v at hx
  cases hx with
  | tup cs xs hl hc =>
  split at h
  ·rename_i y ys hys
   have hy := dropN_head hys
   have hlt : i < cs.length := by rw [hl]; exact (List.getElem?_eq_some_iff.1 hy).1
   exact Yields.same (v := cs[i]) (by simp [execOp,ho,hv,Instr.extract,hlt]) h (.p _ _ (hc _ _ _ (List.getElem?_eq_getElem hlt) hy))
  ·exact h.elim
 ·exact h.elim
end
end Qv

end

section
namespace Qv
open Go Go.RowKit
section
variable {E : Env} {G : Ghost} {S : ASt} {a : Act} {w : World} {o : Oper} {K : FV → Prop}
theorem evBound_inv (hs : SimG E G S a w) {x : Option Operand} {d : Nat} {K : Nat → Prop} (h : evBound (x.map S.val) d K) :
 ∃ m,K m ∧ ((x = none ∧ m = d) ∨ ∃ y k,x = some y ∧ a.eval y = .int k m) := by
 cases x with
 | none => exact ⟨d,h,.inl ⟨rfl,rfl⟩⟩
 | some y =>
   have hy := RepF.val hs y
   simp only [Option.map_some,evBound] at h
   generalize S.val y = vy at h hy
   split at h
   ·rename_i heq; cases heq
   ·rename_i k n heq
    obtain rfl := Option.some.inj heq
    obtain ⟨m,rfl,h⟩ := h
    exact ⟨m,h,.inr ⟨y,k,rfl,hy.int_inv⟩⟩
   ·exact h.elim
theorem run_sliceBounds {P : Program} {w : World} (isSlice : Bool) (len cap : Nat) (lo hi : Option Value) (l h : Nat) (hl : l ≤ h) (hh : h ≤ cap)
 (h1 : (lo = none ∧ l = 0) ∨ ∃ k : IntKind,lo = some (.int k l)) (h2 : (hi = none ∧ h = len) ∨ ∃ k : IntKind,hi = some (.int k h)) :
 (Instr.sliceBounds isSlice len cap lo hi none).run P w = .ok (l,h,cap) w := by
 have b1 : ∀ (k : IntKind) (m y : Nat) (c : BoundsCode),m ≤ y → (Instr.sliceBound (.int k m) y c).run P w = .ok m w := fun k m y c hm => by
  have : (0 : Int) ≤ (m : Int) ∧ (m : Int) ≤ (y : Int) := ⟨by omega,by omega⟩
  simp [Instr.sliceBound,asIntOf_int,this]
 rcases h2 with ⟨rfl,rfl⟩ | ⟨k2,rfl⟩ <;> rcases h1 with ⟨rfl,rfl⟩ | ⟨k1,rfl⟩
 ·simp [Instr.sliceBounds]
 ·simp [Instr.sliceBounds,b1 k1 l _ _ hl]
 ·simp [Instr.sliceBounds,b1 k2 h _ _ hh]
 ·simp [Instr.sliceBounds,b1 k2 h _ _ hh,b1 k1 l _ _ hl]
theorem map_eval_bound {a : Act} {x : Option Operand} {m d : Nat} (h : (x = none ∧ m = d) ∨ ∃ y k,x = some y ∧ a.eval y = .int k m) :
 (x.map a.eval = none ∧ m = d) ∨ ∃ k : IntKind,x.map a.eval = some (.int k m) := by
 rcases h with ⟨rfl,h⟩ | ⟨y,k,rfl,h⟩
 ·exact .inl ⟨rfl,h⟩
 ·exact .inr ⟨k,by simp [h]⟩
theorem extract_bytes (s : List UInt8) (l h : Nat) (hh : h ≤ s.length) : (⟨s.toArray⟩ : ByteArray).extract l h = ⟨((s.take h).drop l).toArray⟩ := by
 apply ByteArray.ext
 rw [ByteArray.data_extract]
 simp only [List.extract_toArray,List.extract_eq_take_drop]
 rw [List.drop_take]
theorem yields_slice (hs : SimG E G S a w) {t : TypeId} {x : Operand} {lo hi : Option Operand} (ho : o.op = .slice t x lo hi none)
 (h : evSlice E.C t (S.val x) (lo.map S.val) (hi.map S.val) K) : Yields E G a w o K := by
 have hx := RepF.val hs x
 generalize S.val x = vx at h hx
 unfold evSlice at h
 split at h
 ·rename_i ht
  have hu := (E.C.ok ht).str
  split at h
  ·rename_i s
   have ex := hx.str_inv
   obtain ⟨m,h,h2⟩ := evBound_inv hs h
   obtain ⟨l,⟨hl,hm,s',rfl,h⟩,h1⟩ := evBound_inv hs h
   have hsz : (⟨s.toArray⟩ : ByteArray).size = s.length := by simp [ByteArray.size]
   have hb := run_sliceBounds (P := E.C.P) (w := w) false s.length s.length _ _ l m hl hm (map_eval_bound h1) (map_eval_bound h2)
   refine Yields.same (v := .string ⟨((s.take m).drop l).toArray⟩) ?_ h (.p _ _ (.str _))
   simp [execOp,ho,ex,Instr.sliceAt,run_underlying hu,Instr.slice,hsz,hb,extract_bytes s l m hm]
  ·exact h.elim
 ·rename_i e _ ht
  have hu := (E.C.ok ht).slice
  split at h
  ·exact h.elim
  ·rename_i j hj
   have hjs := (E.C.ok hj).sizeOf w
   split at h
   ·exact h.elim
   ·rename_i xs hxs
    obtain ⟨ad,c,hv,hcap,hne⟩ := (hx.elems hxs).sl_inv
    obtain ⟨m,h,h2⟩ := evBound_inv hs h
    obtain ⟨l,⟨hl,hm,hall,s',rfl,h⟩,h1⟩ := evBound_inv hs h
    have hb := run_sliceBounds (P := E.C.P) (w := w) true xs.length c _ _ l m hl (by omega) (map_eval_bound h1) (map_eval_bound h2)
    have hrun : (execOp a.eval o).run E.C.P w = .ok (.value (.slice (if c = l then ad else ad.map (·.add (l * j.size))) (m - l) (c - l))) w := by
     simp [execOp,ho,hv,Instr.sliceAt,run_underlying hu,Instr.slice,hb,hjs]
    have hlen : ((xs.take m).drop l).length = m - l := by simp; omega
    refine Yields.same hrun h (.p _ _ ?_)
    by_cases hz : m - l = 0
    ·have : (xs.take m).drop l = [] := List.length_eq_zero_iff.1 (by omega)
     rw [this,hz]
     exact .sl0 _ _
    ·obtain ⟨b,off,esz,cell,rfl,g1,g2⟩ := hne (by intro e; rw [e] at hm; simp at hm; omega)
     have hpos : 0 < xs.length := by omega
     have hesz : esz = j.size := (g1 0 _ (List.getElem?_eq_getElem hpos)).symm.trans (hall _ (List.getElem_mem hpos))
     have hcl : ¬ c = l := by omega
     rw [if_neg hcl,← hlen]
     simp only [Option.map_some,Addr.add_lit,← hesz]
     refine Rep.sl_mk (by omega) (esz := esz) (fun i ys hys => ?_) (fun i ys k y hys hy => ?_)
     ·rw [List.getElem?_drop,List.getElem?_take] at hys
      split at hys
      ·exact g1 _ _ hys
      ·cases hys
     ·rw [List.getElem?_drop,List.getElem?_take] at hys
      split at hys
      ·obtain ⟨g3,g4,g5,g6⟩ := g2 _ _ _ _ hys hy
       have he : off + (l + i) * esz + k = off + l * esz + i * esz + k := by rw [Nat.add_mul]; omega
       rw [he] at g4 g5
       exact ⟨_,g3,g4,g5,g6⟩
      ·cases hys
 ·rename_i len e _ ht
  have hu := (E.C.ok ht).array
  split at h
  ·exact h.elim
  ·rename_i j hj
   have hjs := (E.C.ok hj).sizeOf w
   split at h
   ·rename_i xs
    obtain ⟨b,off,hv,hc⟩ := hx.plain.imp_inv
    obtain ⟨m,h,h2⟩ := evBound_inv hs h
    obtain ⟨l,⟨hl,hm,hj1,hxl,s',rfl,h⟩,h1⟩ := evBound_inv hs h
    have hb := run_sliceBounds (P := E.C.P) (w := w) false len len _ _ l m hl hm (map_eval_bound h1) (map_eval_bound h2)
    have hrun : (execOp a.eval o).run E.C.P w = .ok (.value (.slice (some (if len = l then ⟨b,off,none⟩ else (⟨b,off,none⟩ : Addr).add (l * j.size))) (m - l) (len - l))) w := by
     simp [execOp,ho,hv,Instr.sliceAt,Instr.sureAddr,run_underlying hu,hb,hjs]
    have hlen : (((xs.take m).drop l).map fun x => [x]).length = m - l := by simp; omega
    refine Yields.same hrun h (.p _ _ ?_)
    by_cases hz : m - l = 0
    ·have : (((xs.take m).drop l).map fun x => [x]) = [] := List.length_eq_zero_iff.1 (by omega)
     rw [this,hz]
     exact .sl0 _ _
    ·rw [if_neg (by omega),← hlen]
     simp only [Addr.add_lit,hj1]
     refine Rep.sl_mk (by omega) (esz := 1) (fun i ys hys => ?_) (fun i ys k y hys hy => ?_)
     ·rw [List.getElem?_map] at hys
      cases hq : ((xs.take m).drop l)[i]? with
      | none => simp [hq] at hys
      | some q => simp [hq] at hys; subst hys; rfl
     ·rw [List.getElem?_map] at hys
      cases hq : ((xs.take m).drop l)[i]? with
      | none => simp [hq] at hys
      | some q =>
        simp [hq] at hys
        subst hys
        match k,hy with
        | 0,hy =>
          simp at hy
          subst hy
          rw [List.getElem?_drop,List.getElem?_take] at hq
          split at hq
          ·obtain ⟨c,g3,g4,g5,g6⟩ := hc _ _ hq
           exact ⟨c,g3,by rw [show off + l * 1 + i * 1 + 0 = off + (l + i) from by omega]; exact g4,by rw [show off + l * 1 + i * 1 + 0 = off + (l + i) from by omega]; exact g5,g6⟩
          ·cases hq
   ·exact h.elim
 ·exact h.elim
theorem yields_builtin (hs : SimG E G S a w) {b : Builtin} {args : Array Operand} {types : Array TypeId} (ho : o.op = .call ⟨.builtin b,args,types⟩)
 (h : evBuiltinV E.C S.objs b (args.toList.map S.val) types.toList K) : Yields E G a w o K := by
 have hx := fun x => RepF.val hs x
 obtain ⟨args⟩ := args
 obtain ⟨types⟩ := types
 simp only at h
 unfold evBuiltinV at h
 split at h
 ·-- len
  split at h
  ·rename_i x t hargs
   cases args with
   | nil => simp at hargs
   | cons y args =>
   cases args with
   | cons z args => simp at hargs
   | nil =>
   simp only [List.map_cons,List.map_nil,List.cons.injEq,and_true] at hargs
   have hy := hx y
   rw [hargs] at hy
   split at h
   ·exact h.elim
   ·rename_i ht
    have hu := (E.C.ok ht).str
    split at h
    ·rename_i s
     have ey := hy.str_inv
     have hsz : (⟨s.toArray⟩ : ByteArray).size = s.length := by simp [ByteArray.size]
     exact Yields.same (v := .int .i64 s.length) (by simp [execOp,ho,resolve,invoke,builtin,ey,Builtin.len_,run_underlying hu,hsz,goInt]) h (.p _ _ (.int _ _))
    ·exact h.elim
   ·rename_i e _ ht
    have hu := (E.C.ok ht).slice
    split at h
    ·rename_i ob T esz
     split at h
     ·rename_i cells hcells
      obtain ⟨n,hn,h⟩ := h
      generalize hv : a.eval y = v at hy
      cases hy with
      | osl _ _ _ n' c b h1 h2 h3 h4 =>
      obtain ⟨-,-,h5⟩ := hs.locTail _ _ _ _ h1 h2
      have h6 := h5 cells hcells
      simp only at h6
      obtain rfl : n = n' := Nat.eq_of_mul_eq_mul_right h4 (hn.symm.trans h6)
      exact Yields.same (v := .int .i64 n) (by simp [execOp,ho,resolve,invoke,builtin,hv,Builtin.len_,run_underlying hu,goInt]) h (.p _ _ (.int _ _))
     ·exact h.elim
    split at h
    ·rename_i xs hxs
     obtain ⟨ad,c,hv,hcap,hne⟩ := (hy.elems hxs).sl_inv
     exact Yields.same (v := .int .i64 xs.length) (by simp [execOp,ho,resolve,invoke,builtin,hv,Builtin.len_,run_underlying hu,goInt]) h (.p _ _ (.int _ _))
    ·exact h.elim
   ·exact h.elim
  ·exact h.elim
 ·-- min
  split at h
  ·rename_i k m k' n hargs
   cases args with
   | nil => simp at hargs
   | cons y args =>
   cases args with
   | nil => simp at hargs
   | cons z args =>
   cases args with
   | cons z args => simp at hargs
   | nil =>
   simp only [List.map_cons,List.map_nil,List.cons.injEq,and_true] at hargs
   have hy := hx y
   have hz := hx z
   rw [hargs.1] at hy
   rw [hargs.2] at hz
   have ey := hy.int_inv
   have ez := hz.int_inv
   split at h
   case h_2 => exact h.elim
   rename_i hk
   obtain rfl := sameK_eq hk
   obtain ⟨c,rfl,h⟩ := h
   exact Yields.same (v := .int k (if n < m then n else m)) (by simp [execOp,ho,resolve,invoke,builtin,ey,ez,Builtin.min_,Builtin.min2]) h (.p _ _ (.int _ _))
  ·exact h.elim
 ·-- max
  split at h
  ·rename_i k m k' n hargs
   cases args with
   | nil => simp at hargs
   | cons y args =>
   cases args with
   | nil => simp at hargs
   | cons z args =>
   cases args with
   | cons z args => simp at hargs
   | nil =>
   simp only [List.map_cons,List.map_nil,List.cons.injEq,and_true] at hargs
   have hy := hx y
   have hz := hx z
   rw [hargs.1] at hy
   rw [hargs.2] at hz
   have ey := hy.int_inv
   have ez := hz.int_inv
   split at h
   case h_2 => exact h.elim
   rename_i hk
   obtain rfl := sameK_eq hk
   obtain ⟨c,rfl,h⟩ := h
   exact Yields.same (v := .int k (if n > m then n else m)) (by simp [execOp,ho,resolve,invoke,builtin,ey,ez,Builtin.max_,Builtin.max2]) h (.p _ _ (.int _ _))
  ·exact h.elim
 ·exact h.elim
end
end Qv

end
