/- Several texts in one: Parsing the text of blocks yields the blocks; what parses is the text of its blocks: the laws, Contracts: the laws UnifiedRoundTrip and UnifiedCanonical. No condition. -/
import Derived.Test.YtbnnmamkplbdkaaDoorSC

section
/- Parsing the text of blocks yields the blocks; what parses is the text of its blocks: the laws. No condition. -/
set_option linter.unusedVariables false
set_option linter.unusedSimpArgs false
open Go Go.Proofs
namespace Qv

/-! ### The text of lines and of blocks -/

def linesT (l : List Bytes) : Bytes := l.flatMap (fun x => x ++ [10])
def blockT (b : Block) : Bytes := headL b ++ [10] ++ linesT b.lines
def textT (l : List Block) : Bytes := l.flatMap blockT

theorem linesF_some {l : List Bytes} {t : Bytes} (h : linesF l = some t) : t = linesT l ∧ ∀ x, x ∈ l → (10 : UInt8) ∉ x := by
  induction l generalizing t with
  | nil => simp [linesF] at h; subst h; exact ⟨rfl, fun x hx => by cases hx⟩
  | cons s r ih =>
    unfold linesF at h
    split at h
    · cases h
    · rename_i hs
      cases hr : linesF r with
      | none => rw [hr] at h; cases h
      | some u =>
        rw [hr] at h
        obtain rfl := Option.some.inj h
        obtain ⟨h1, h2⟩ := ih hr
        refine ⟨by rw [h1]; simp [linesT], fun x hx => ?_⟩
        rcases List.mem_cons.1 hx with rfl | hx
        · rw [hasLF_mem] at hs
          simpa using hs
        · exact h2 x hx

theorem linesF_of {l : List Bytes} (h : ∀ x, x ∈ l → (10 : UInt8) ∉ x) : linesF l = some (linesT l) := by
  induction l with
  | nil => rfl
  | cons s r ih =>
    unfold linesF
    have hs : hasLF s = false := by rw [hasLF_mem]; exact decide_eq_false (h s (List.mem_cons_self ..))
    rw [hs, if_neg (by simp), ih (fun x hx => h x (List.mem_cons_of_mem _ hx))]
    simp [linesT]

theorem formatF_some {l : List Block} {t : Bytes} (h : formatF l = some t) : t = textT l ∧ ∀ b, b ∈ l → ∀ x, x ∈ b.lines → (10 : UInt8) ∉ x := by
  induction l generalizing t with
  | nil => simp [formatF] at h; subst h; exact ⟨rfl, fun x hx => by cases hx⟩
  | cons b r ih =>
    unfold formatF at h
    cases hl : linesF b.lines with
    | none => rw [hl] at h; cases h
    | some u =>
      rw [hl] at h
      simp only at h
      cases hr : formatF r with
      | none => rw [hr] at h; cases h
      | some v =>
        rw [hr] at h
        obtain rfl := Option.some.inj h
        obtain ⟨h1, h2⟩ := ih hr
        obtain ⟨h3, h4⟩ := linesF_some hl
        refine ⟨by rw [h1, h3, headS_L]; simp [textT, blockT], fun c hc => ?_⟩
        rcases List.mem_cons.1 hc with rfl | hc
        · exact h4
        · exact h2 c hc

theorem formatF_of {l : List Block} (h : ∀ b, b ∈ l → ∀ x, x ∈ b.lines → (10 : UInt8) ∉ x) : formatF l = some (textT l) := by
  induction l with
  | nil => rfl
  | cons b r ih =>
    unfold formatF
    rw [linesF_of (h b (List.mem_cons_self ..)), ih (fun c hc => h c (List.mem_cons_of_mem _ hc))]
    simp only
    rw [headS_L]
    simp [textT, blockT]

/-! ### The lines of a text -/

theorem lns_lines (l : List Bytes) (r : Bytes) (h : ∀ x, x ∈ l → (10 : UInt8) ∉ x) : lns [] (linesT l ++ r) = l.map (fun x => (x, true)) ++ lns [] r := by
  induction l with
  | nil => rfl
  | cons s t ih =>
    have e : linesT (s :: t) ++ r = s ++ [10] ++ (linesT t ++ r) := by simp [linesT]
    rw [e, lns_line s _ (h s (List.mem_cons_self ..)), ih (fun x hx => h x (List.mem_cons_of_mem _ hx))]
    rfl

theorem head_free (b : Block) (hb : BOK b) (hl : b.lines.length ≤ 2 ^ 20) : (10 : UInt8) ∉ headL b := by
  obtain ⟨q1, -, q2, -⟩ := bok_len hb hl
  have h1 := place_free b.oldAt b.oldLen hb.at_.1 q1 10 (by decide)
  have h2 := place_free b.newAt b.newLen hb.at'.1 q2 10 (by decide)
  unfold headL hdP hdM hdS
  simp [h1, h2]

theorem nK_cons (x : Bytes) (l : List Bytes) : nK (x :: l) = nK [x] + nK l := by
  unfold nK; rw [show x :: l = [x] ++ l from rfl, List.countP_append]
theorem nR_cons (x : Bytes) (l : List Bytes) : nR (x :: l) = nR [x] + nR l := by
  unfold nR; rw [show x :: l = [x] ++ l from rfl, List.countP_append]
theorem nA_cons (x : Bytes) (l : List Bytes) : nA (x :: l) = nA [x] + nA l := by
  unfold nA; rw [show x :: l = [x] ++ l from rfl, List.countP_append]

theorem sgn_one {x : Bytes} (h : isSgn x = true) : 1 ≤ nK [x] + nR [x] + nA [x] := by
  unfold isSgn at h
  simp only [nK, nR, nA, List.countP_cons, List.countP_nil]
  simp only [Bool.or_eq_true] at h
  rcases h with (h | h) | h <;> simp [h] <;> omega

theorem pF_lines (l : List Bytes) (hl : ∀ x, x ∈ l → isSgn x = true) : ∀ (n : Nat) (done : List Block) (c : Block) (heads : List Nat) (r : List (Bytes × Bool)),
    pF n ((nK l + nR l : Nat) : Int) ((nK l + nA l : Nat) : Int) done (some c) heads (l.map (fun x => (x, true)) ++ r) = pF (n + l.length) 0 0 done (some { c with lines := c.lines ++ l }) heads r := by
  induction l with
  | nil =>
    intro n done c heads r
    have e : ({ c with lines := c.lines ++ [] } : Block) = c := by simp
    rw [e]
    rfl
  | cons x l ih =>
    intro n done c heads r
    have h1 := sgn_one (hl x (List.mem_cons_self ..))
    rw [nK_cons, nR_cons, nA_cons, List.map_cons, List.cons_append, pF, if_neg (by simp), if_neg (by omega), if_pos ⟨hl x (List.mem_cons_self ..), by omega, by omega⟩]
    have e1 : ((nK [x] + nK l + (nR [x] + nR l) : Nat) : Int) - nK [x] - nR [x] = ((nK l + nR l : Nat) : Int) := by omega
    have e2 : ((nK [x] + nK l + (nA [x] + nA l) : Nat) : Int) - nK [x] - nA [x] = ((nK l + nA l : Nat) : Int) := by omega
    rw [e1, e2, Option.map_some, ih (fun y hy => hl y (List.mem_cons_of_mem _ hy))]
    have e3 : n + 1 + l.length = n + (x :: l).length := by simp; omega
    rw [e3]
    simp [addL]

theorem pF_blocks (l : List Block) (hb : ∀ b, b ∈ l → BOK b) (hl : ∀ b, b ∈ l → b.lines.length ≤ 2 ^ 20) : ∀ (n : Nat) (done : List Block) (cur : Option Block) (heads : List Nat),
    ∃ hs m, pF n 0 0 done cur heads (l.flatMap fun b => (headL b, true) :: b.lines.map (fun x => (x, true))) = .inr (done ++ cur.toList ++ l, hs, m, 0) := by
  induction l with
  | nil => intro n done cur heads; exact ⟨heads, n, by simp [pF]⟩
  | cons b l ih =>
    intro n done cur heads
    have hB := hb b (List.mem_cons_self ..)
    have hL := hl b (List.mem_cons_self ..)
    obtain ⟨q1, q2, q3, q4⟩ := bok_len hB hL
    have hh := headerV_L b ⟨hB.at_.1, q1, hB.end_⟩ ⟨hB.at'.1, q3, hB.end'⟩
    have o1 : b.oldLen = ((nK b.lines + nR b.lines : Nat) : Int) := by rw [hB.old, count_old]
    have o2 : b.newLen = ((nK b.lines + nA b.lines : Nat) : Int) := by rw [hB.new, count_new]
    obtain ⟨hs, m, e⟩ := ih (fun c hc => hb c (List.mem_cons_of_mem _ hc)) (fun c hc => hl c (List.mem_cons_of_mem _ hc)) (n + 1 + b.lines.length) (done ++ cur.toList) (some b) (heads ++ [n + 1])
    refine ⟨hs, m, ?_⟩
    rw [List.flatMap_cons, List.cons_append, pF, if_neg (by simp), if_pos (by decide : (0 : Int) + 0 = 0), hh]
    simp only
    rw [o1, o2, pF_lines b.lines (fun x hx => List.all_eq_true.1 hB.signs x hx)]
    have eb : ({ b with lines := [] ++ b.lines } : Block) = b := by simp
    simp only [← o1, ← o2]
    rw [eb, e]
    simp

theorem lns_text_blocks (l : List Block) (hb : ∀ b, b ∈ l → BOK b) (hl : ∀ b, b ∈ l → b.lines.length ≤ 2 ^ 20) (hf : ∀ b, b ∈ l → ∀ x, x ∈ b.lines → (10 : UInt8) ∉ x) :
    lns [] (textT l) = l.flatMap fun b => (headL b, true) :: b.lines.map (fun x => (x, true)) := by
  induction l with
  | nil => rfl
  | cons b l ih =>
    have e : textT (b :: l) = headL b ++ [10] ++ (linesT b.lines ++ textT l) := by simp [textT, blockT]
    rw [e, lns_line _ _ (head_free b (hb b (List.mem_cons_self ..)) (hl b (List.mem_cons_self ..))), lns_lines _ _ (hf b (List.mem_cons_self ..)),
      ih (fun c hc => hb c (List.mem_cons_of_mem _ hc)) (fun c hc => hl c (List.mem_cons_of_mem _ hc)) (fun c hc => hf c (List.mem_cons_of_mem _ hc))]
    rfl

/-- Parsing the text of blocks yields the blocks. -/
theorem roundtrip {l : List Block} (hl : ∀ b, b ∈ l → b.lines.length ≤ 2 ^ 20) (h : (uformat l).2 = 0) : uparse (uformat l).1 = (l, 0, 0) := by
  have hck : (checkL l).2 = 0 := by
    unfold uformat at h
    split at h
    · assumption
    · exact h
  have hu : uformat l = resF (formatF l) := by unfold uformat; rw [if_pos hck]
  rw [hu] at h ⊢
  cases hf : formatF l with
  | none => rw [hf] at h; cases h
  | some t =>
    obtain ⟨h1, h2⟩ := formatF_some hf
    have hb := checkF_ok hck
    obtain ⟨hs, m, e⟩ := pF_blocks l hb hl 0 [] none []
    simp only [resF]
    unfold uparse
    rw [h1, lns_text_blocks l hb hl h2, e]
    simp [hck]

theorem unformatted {l : List Block} (h : (uformat l).2 ≠ 0) : (uformat l).1 = [] := by
  unfold uformat at h ⊢
  split
  · rename_i h0
    rw [if_pos h0] at h
    cases hf : formatF l with
    | none => rfl
    | some t => rw [hf] at h; exact absurd rfl h
  · rfl

/-! ### What parses -/

theorem headL_addL (x : Bytes) (c : Block) : headL (addL x c) = headL c := rfl

theorem textT_app (l l' : List Block) : textT (l ++ l') = textT l ++ textT l' := by simp [textT]
theorem textT_add (x : Bytes) (c : Block) : textT [addL x c] = textT [c] ++ (x ++ [10]) := by
  show [addL x c].flatMap blockT = [c].flatMap blockT ++ (x ++ [10])
  simp only [List.flatMap_cons, List.flatMap_nil, List.append_nil, blockT, headL_addL]
  simp [linesT, addL]

theorem pF_text : ∀ (r : List (Bytes × Bool)) (n : Nat) (old new : Int) (done : List Block) (cur : Option Block) (heads : List Nat) (out : List Block) (hs : List Nat) (m : Nat) (o : Int),
    (cur = none → old = 0 ∧ new = 0) → (∀ b, b ∈ done ++ cur.toList → ∀ x, x ∈ b.lines → (10 : UInt8) ∉ x) → (∀ p, p ∈ r → (10 : UInt8) ∉ p.1) →
    pF n old new done cur heads r = .inr (out, hs, m, o) →
    textT (done ++ cur.toList) ++ r.flatMap (fun p => p.1 ++ [10]) = textT out ∧ (∀ p, p ∈ r → p.2 = true) ∧ (∀ b, b ∈ out → ∀ x, x ∈ b.lines → (10 : UInt8) ∉ x) ∧ m = n + r.length
  | [], n, old, new, done, cur, heads, out, hs, m, o, h0, hf, hr, h => by
    simp only [pF, Sum.inr.injEq, Prod.mk.injEq] at h
    obtain ⟨rfl, rfl, rfl, rfl⟩ := h
    exact ⟨by simp, fun p hp => (by cases hp), hf, rfl⟩
  | (x, e) :: r, n, old, new, done, cur, heads, out, hs, m, o, h0, hf, hr, h => by
    have hr' : ∀ p, p ∈ r → (10 : UInt8) ∉ p.1 := fun p hp => hr p (List.mem_cons_of_mem _ hp)
    rw [pF] at h
    split at h
    · cases h
    · rename_i he
      have he : e = true := by cases e; exact absurd rfl he; rfl
      subst he
      split at h
      · cases hh : headerV x with
        | none => rw [hh] at h; cases h
        | some b =>
          rw [hh] at h
          simp only at h
          obtain ⟨e1, e2, -⟩ := headerV_some hh
          obtain ⟨k1, k2, k3, k4⟩ := pF_text r _ _ _ _ _ _ _ _ _ _ (fun e => by cases e) (fun c hc => by
            rcases List.mem_append.1 hc with hc | hc
            · exact hf c hc
            · obtain rfl : c = b := by simpa using hc
              rw [e2]; intro x hx; cases hx) hr' h
          refine ⟨?_, fun p hp => ?_, k3, by rw [k4]; simp; omega⟩
          · rw [← k1, textT_app (done ++ cur.toList)]
            have : textT (Option.toList (some b)) = x ++ [10] := by
              simp [textT, blockT, linesT, e2, e1]
            rw [this]
            simp
          · rcases List.mem_cons.1 hp with rfl | hp
            · rfl
            · exact k2 p hp
      · rename_i hne
        split at h
        · cases cur with
          | none => have := h0 rfl; omega
          | some c =>
            rw [Option.map_some] at h
            obtain ⟨k1, k2, k3, k4⟩ := pF_text r _ _ _ _ _ _ _ _ _ _ (fun e => by cases e) (fun d hd => by
              rcases List.mem_append.1 hd with hd | hd
              · exact hf d (List.mem_append_left _ hd)
              · obtain rfl : d = addL x c := by simpa using hd
                intro y hy
                simp only [addL] at hy
                rcases List.mem_append.1 hy with hy | hy
                · exact hf c (by simp) y hy
                · obtain rfl : y = x := by simpa using hy
                  exact hr (y, true) (List.mem_cons_self ..)) hr' h
            refine ⟨?_, fun p hp => ?_, k3, by rw [k4]; simp; omega⟩
            · rw [← k1, textT_app, textT_app]
              simp only [Option.toList]
              rw [textT_add]
              simp
            · rcases List.mem_cons.1 hp with rfl | hp
              · rfl
              · exact k2 p hp
        · cases h

theorem pF_err : ∀ (r : List (Bytes × Bool)) (n : Nat) (old new : Int) (done : List Block) (cur : Option Block) (heads : List Nat) (k : Nat),
    pF n old new done cur heads r = .inl k → n + 1 ≤ k ∧ k ≤ n + r.length
  | [], n, old, new, done, cur, heads, k, h => by simp [pF] at h
  | (x, e) :: r, n, old, new, done, cur, heads, k, h => by
    have one : ∀ {q : Nat}, (Sum.inl (n + 1) : Nat ⊕ (List Block × List Nat × Nat × Int)) = .inl q → n + 1 ≤ q ∧ q ≤ n + ((x, e) :: r).length := fun h => by
      injection h with h
      simp; omega
    have two : ∀ {old new : Int} {done : List Block} {cur : Option Block} {heads : List Nat}, pF (n + 1) old new done cur heads r = .inl k → n + 1 ≤ k ∧ k ≤ n + ((x, e) :: r).length := fun h => by
      have := pF_err r _ _ _ _ _ _ _ h
      simp; omega
    rw [pF] at h
    split at h
    · exact one h
    · split at h
      · cases hh : headerV x with
        | none => rw [hh] at h; exact one h
        | some b => rw [hh] at h; exact two h
      · split at h
        · exact two h
        · exact one h

theorem pF_heads : ∀ (r : List (Bytes × Bool)) (n : Nat) (old new : Int) (done : List Block) (cur : Option Block) (heads : List Nat) (out : List Block) (hs : List Nat) (m : Nat) (o : Int),
    heads.length = done.length + cur.toList.length → (∀ h, h ∈ heads → 1 ≤ h ∧ h ≤ n) → (cur = none → old = 0 ∧ new = 0) → pF n old new done cur heads r = .inr (out, hs, m, o) →
    hs.length = out.length ∧ ∀ h, h ∈ hs → 1 ≤ h ∧ h ≤ m
  | [], n, old, new, done, cur, heads, out, hs, m, o, hl, hh, h0, h => by
    simp only [pF, Sum.inr.injEq, Prod.mk.injEq] at h
    obtain ⟨rfl, rfl, rfl, rfl⟩ := h
    exact ⟨by simp [hl], hh⟩
  | (x, e) :: r, n, old, new, done, cur, heads, out, hs, m, o, hl, hh, h0, h => by
    rw [pF] at h
    split at h
    · cases h
    · split at h
      · cases hq : headerV x with
        | none => rw [hq] at h; cases h
        | some b =>
          rw [hq] at h
          refine pF_heads r _ _ _ _ _ _ _ _ _ _ ?_ ?_ (fun e => by cases e) h
          · simp; omega
          · intro q hqm
            rcases List.mem_append.1 hqm with hqm | hqm
            · have := hh q hqm; omega
            · obtain rfl : q = n + 1 := by simpa using hqm
              omega
      · rename_i hne
        split at h
        · cases cur with
          | none => have := h0 rfl; omega
          | some c =>
            refine pF_heads r _ _ _ _ _ _ _ _ _ _ (by simpa using hl) ?_ (fun e => by cases e) h
            intro q hqm
            have := hh q hqm
            omega
        · cases h

/-- What parses is the text of its blocks; otherwise the line is one of the string's, or the one behind it. -/
theorem canonical (s : Bytes) : ((uparse s).2.2 = 0 → (uparse s).2.1 = 0 ∧ uformat (uparse s).1 = (s, 0)) ∧
    ((uparse s).2.2 ≠ 0 → (uparse s).1 = [] ∧ 1 ≤ (uparse s).2.1 ∧ (uparse s).2.1 ≤ 1 + (s.count 10 : Nat)) := by
  have hlen := lns_len s []
  have hlf := lns_lf s [] (by simp)
  have hu : uparse s = match pF 0 0 0 [] none [] (lns [] s) with
    | .inl n => ([], (n : Int), 3)
    | .inr (out, heads, n, o) => if 0 < o then ([], (n : Int) + 1, 3) else if (checkL out).2 = 0 then (out, 0, 0) else ([], ((heads.getD (checkL out).1.toNat 0 : Nat) : Int), (checkL out).2) := rfl
  cases hp : pF 0 0 0 [] none [] (lns [] s) with
  | inl k =>
    rw [hp] at hu
    have hk := pF_err _ _ _ _ _ _ _ _ hp
    rw [hu]
    refine ⟨fun h => (by cases h), fun _ => ⟨rfl, ?_, ?_⟩⟩
    · show 1 ≤ (k : Int); omega
    · show (k : Int) ≤ _; omega
  | inr q =>
    obtain ⟨out, heads, m, o⟩ := q
    rw [hp] at hu
    simp only at hu
    obtain ⟨k1, k2, k3, k4⟩ := pF_text _ _ _ _ _ _ _ _ _ _ _ (fun _ => ⟨rfl, rfl⟩) (fun b hb => (by cases hb)) hlf hp
    obtain ⟨t1, t2⟩ := lns_text s [] k2
    obtain ⟨g1, g2⟩ := pF_heads _ _ _ _ _ _ _ _ _ _ _ rfl (fun h hh => (by cases hh)) (fun _ => ⟨rfl, rfl⟩) hp
    have hs : s = textT out := by
      rw [← k1]
      simpa [textT] using t1
    have hm : m = s.count 10 := by omega
    rw [hu]
    split
    · refine ⟨fun h => (by cases h), fun _ => ⟨rfl, ?_, ?_⟩⟩
      · show 1 ≤ (m : Int) + 1; omega
      · show (m : Int) + 1 ≤ _; omega
    · split
      · rename_i hck
        refine ⟨fun _ => ⟨rfl, ?_⟩, fun h => absurd rfl h⟩
        unfold uformat
        simp only
        rw [if_pos hck, formatF_of k3, ← hs]
        rfl
      · rename_i hck
        refine ⟨fun h => absurd h hck, fun _ => ⟨rfl, ?_⟩⟩
        have hat : 0 ≤ (checkL out).1 ∧ (checkL out).1 < 0 + (out.length : Nat) := checkF_at out none 0 0 hck
        have hlt : (checkL out).1.toNat < heads.length := by omega
        have hmem : heads.getD (checkL out).1.toNat 0 ∈ heads := by
          rw [List.getD_eq_getElem?_getD, List.getElem?_eq_getElem hlt]
          exact List.getElem_mem hlt
        have := g2 _ hmem
        constructor
        · show 1 ≤ ((heads.getD (checkL out).1.toNat 0 : Nat) : Int); omega
        · show ((heads.getD (checkL out).1.toNat 0 : Nat) : Int) ≤ _; omega

end Qv
end

section
/- Contracts: the laws UnifiedRoundTrip and UnifiedCanonical. No condition. -/
set_option linter.unusedVariables false
set_option linter.unusedSimpArgs false
open Go Go.Proofs
namespace Qv

theorem linesT_len (l : List Bytes) : (linesT l).length = sumLen l + l.length := by
  unfold linesT sumLen
  induction l with
  | nil => rfl
  | cons x l ih => simp only [List.flatMap_cons, List.length_append, List.length_cons, List.length_nil, List.map_cons, List.sum_cons] at *; omega

theorem blockT_len (b : Block) : (blockT b).length = (headS b).length + (sumLen b.lines + b.lines.length) := by
  unfold blockT
  rw [← headS_L, List.length_append, linesT_len]

theorem headS_pos (b : Block) : 1 ≤ (headS b).length := by
  rw [headS_L]; simp

theorem textT_le (l : List Block) (hb : ∀ b, b ∈ l → BOK b) (hl : ∀ b, b ∈ l → b.lines.length ≤ 2 ^ 20) : (textT l).length ≤ textLen l := by
  unfold textT textLen
  induction l with
  | nil => simp
  | cons b l ih =>
    have h1 := headS_len (hb b (List.mem_cons_self ..)) (hl b (List.mem_cons_self ..))
    have h2 := blockT_len b
    have h3 := ih (fun c hc => hb c (List.mem_cons_of_mem _ hc)) (fun c hc => hl c (List.mem_cons_of_mem _ hc))
    simp only [List.flatMap_cons, List.length_append, List.map_cons, List.sum_cons]
    omega

theorem textT_ge (l : List Block) : l.length ≤ (textT l).length ∧ (∀ b, b ∈ l → b.lines.length ≤ (textT l).length) ∧ textLen l ≤ 200 * (textT l).length := by
  unfold textT textLen
  induction l with
  | nil => simp
  | cons b l ih =>
    obtain ⟨h1, h2, h3⟩ := ih
    have h4 := blockT_len b
    have h5 := headS_pos b
    refine ⟨by simp only [List.flatMap_cons, List.length_append, List.length_cons]; omega, fun c hc => ?_, ?_⟩
    · simp only [List.flatMap_cons, List.length_append]
      rcases List.mem_cons.1 hc with rfl | hc
      · omega
      · have := h2 c hc; omega
    · simp only [List.flatMap_cons, List.length_append, List.map_cons, List.sum_cons]
      omega

theorem uformat_len (l : List Block) (ht : TinyB l) : (uformat l).1.length ≤ textLen l := by
  unfold uformat
  split
  · rename_i h
    cases hf : formatF l with
    | none => exact Nat.zero_le _
    | some t =>
      obtain ⟨h1, -⟩ := formatF_some hf
      show t.length ≤ _
      rw [h1]
      exact textT_le l (checkF_ok h) ht.each
  · exact Nat.zero_le _

theorem formatted {l : List Block} {s : Bytes} (h : uformat l = (s, 0)) : formatF l = some s := by
  unfold uformat at h
  split at h
  · cases hf : formatF l with
    | none => rw [hf] at h; cases h
    | some t => rw [hf] at h; cases h; rfl
  · rename_i hn
    injection h with h1 h2
    exact absurd h2 hn

theorem count_take (s : Bytes) (k : Nat) (h : k < s.length) : (s.take (k + 1)).count 10 = (s.take k).count 10 + if s[k] = 10 then 1 else 0 := by
  rw [← List.take_append_getElem h, List.count_append]
  by_cases e : s[k] = 10
  · simp [e]
  · simp [e, List.count_cons]

set_option maxRecDepth 100000 in
set_option maxHeartbeats 4000000 in
theorem round_law_ok (l : List Block) (hb' : SzB l) : CallsTo D 10 [encBs l] (fun q => q = .val (.bool true)) := by
  refine callsTo_of_ev' Tryd.func10 rfl rfl rfl ?_
  refine ⟨_, (greatBs_ok l hb').bool.up, ?_⟩
  rintro q ⟨t, hg, rfl⟩
  cases t with
  | true =>
    refine ⟨_, awake_ok.up, ?_⟩
    rintro q rfl
    exact rfl
  | false =>
  obtain ⟨z1, z2, z3⟩ := greatBs_no hg.symm
  have ht := greatBs_tiny hg.symm
  have hT := textLen_eq l
  have c1 := (format_ok l ht (by omega)).up
  have hlen := uformat_len l ht
  have c2 := uparse_ok (uformat l).1 (by omega)
  have hrt := roundtrip (l := l) ht.each
  have hun := unformatted (l := l)
  have c3 : CallsTo D 16 [encBs l, encBs l] (fun r => r = .val (.bool true)) :=
    ((sameBs_ok l l (by omega) (by omega) (fun b hb => by have := ht.each b hb; omega) (fun b hb => by have := ht.each b hb; omega)).mono fun r hr => by rw [hr, decide_eq_true rfl]).up
  generalize uformat l = Y at *
  obtain ⟨y, e⟩ := Y
  simp only at hrt hun c2
  refine ⟨_, c1, ?_⟩
  rintro q rfl
  refine ⟨nec (fun h => ?_) (fun h => ?_)⟩
  · have hy := hun h
    refine ⟨none, ⟨eqc (fun _ => ?_) (fun h2 => absurd hy h2)⟩⟩
    refine ⟨_, awake_ok.up, ?_⟩
    rintro q rfl
    exact rfl
  · rw [hrt h] at c2
    refine ⟨_, c2, ?_⟩
    rintro q rfl
    refine ⟨none, ⟨eqc (fun _ => ?_) (fun h => absurd rfl h)⟩⟩
    refine ⟨eqc (fun _ => ?_) (fun h => absurd rfl h)⟩
    refine ⟨_, c3, ?_⟩
    rintro q rfl
    refine ⟨_, awake_ok.up, ?_⟩
    rintro q rfl
    exact rfl

set_option maxRecDepth 100000 in
set_option maxHeartbeats 4000000 in
theorem canon_law_ok (s : Bytes) (hs : s.length ≤ 2 ^ 62) : CallsTo D 11 [.str s] (fun q => q = .val (.bool true)) := by
  refine callsTo_of_ev' Tryd.func11 rfl rfl rfl ?_
  refine ⟨dc (fun hg => ?_) (fun hg => ?_)⟩
  · refine ⟨_, awake_ok.up, ?_⟩
    rintro q rfl
    exact rfl
  have hl : s.length ≤ 1000 := by omega
  obtain ⟨hc1, hc2⟩ := canonical s
  refine ⟨_, uparse_ok s (by omega), ?_⟩
  rintro q rfl
  generalize uparse s = Y at *
  obtain ⟨out, n, e⟩ := Y
  simp only at hc1 hc2
  refine ⟨nec (fun h => ?_) (fun h => ?_)⟩
  · obtain ⟨h1, h2, h3⟩ := hc2 h
    subst h1
    refine loopR 68 (fun k : Nat => [(0, .p (.str s)), (3, .p (encBs [])), (4, .p (.int .i64 n)), (6, .p (.int .i64 ((1 + (s.take k).count 10 : Nat) : Int))), (22, .p (.str s)), (23, .p (.int .i64 s.length)), (24, .p (.int .i64 k))]) (fun _ => []) (fun k => k ≤ s.length) (fun k => s.length - k) 0 (Nat.zero_le _) rfl ⟨Weak.refl _, Weak.refl _, Weak.refl _, Weak.refl _, Weak.refl _, Weak.refl _, Weak.refl _, trivial⟩ trivial ?_
    intro k hk
    refine ⟨dc (fun hlt => ?_) (fun hge => ?_)⟩
    · have hlt : k < s.length := by omega
      have hct := count_take s k hlt
      have hcl : (s.take k).count 10 ≤ k := by
        have := List.count_le_length (a := (10 : UInt8)) (l := s.take k)
        simp at this; omega
      refine ⟨by omega, s[k], by simp [hlt], ⟨eqc (fun h10 => ?_) (fun h10 => ?_)⟩⟩
      · have h10 : s[k] = 10 := UInt8.toNat.inj (by have h3 : ((s[k]).toNat : Int) = 10 := h10; show _ = 10; omega)
        rw [if_pos h10] at hct
        exact ⟨((1 + (s.take (k + 1)).count 10 : Nat) : Int), (show IntKind.i64.wrap (((1 + (s.take k).count 10 : Nat) : Int) + 1) = _ from by rw [wrap64 (by omega) (by omega)]; omega), ((k + 1 : Nat) : Int), (show IntKind.i64.wrap ((k : Int) + 1) = _ from by rw [wrap64 (by omega) (by omega)]; omega), roundR (k + 1) hlt (by omega) rfl ⟨Weak.refl _, Weak.refl _, Weak.refl _, Weak.refl _, Weak.refl _, Weak.refl _, Weak.refl _, trivial⟩ trivial⟩
      · have h10 : s[k] ≠ 10 := by intro e; rw [e] at h10; exact h10 rfl
        rw [if_neg h10] at hct
        exact ⟨((k + 1 : Nat) : Int), (show IntKind.i64.wrap ((k : Int) + 1) = _ from by rw [wrap64 (by omega) (by omega)]; omega), roundR (k + 1) hlt (by omega) rfl ⟨Weak.refl _, Weak.refl _, Weak.refl _, Weak.int (by rw [hct]; rfl), Weak.refl _, Weak.refl _, Weak.refl _, trivial⟩ trivial⟩
    · have hkl : k = s.length := by omega
      rw [hkl, List.take_length]
      refine ⟨none, ⟨eqc (fun _ => ?_) (fun h => absurd rfl h)⟩⟩
      refine ⟨dc (fun _ => ?_) (fun h => absurd h2 h)⟩
      refine ⟨dc (fun _ => ?_) (fun h => absurd (by omega) h)⟩
      refine ⟨_, awake_ok.up, ?_⟩
      rintro q rfl
      exact rfl
  · obtain ⟨h1, h2⟩ := hc1 h
    subst h1
    have hf : formatF out = some s := formatted h2
    obtain ⟨h3, -⟩ := formatF_some hf
    obtain ⟨g1, g2, g3⟩ := textT_ge out
    rw [← h3] at g1 g2 g3
    have c1 := (format_ok out ⟨by omega, fun b hb => by have := g2 b hb; omega⟩ (by omega)).up
    rw [h2] at c1
    refine ⟨_, c1, ?_⟩
    rintro q rfl
    refine ⟨none, ⟨eqc (fun _ => ?_) (fun h => absurd rfl h)⟩⟩
    refine ⟨eqc (fun _ => ?_) (fun h => absurd rfl h)⟩
    refine ⟨eqc (fun _ => ?_) (fun h => absurd rfl h)⟩
    refine ⟨_, awake_ok.up, ?_⟩
    rintro q rfl
    exact rfl

end Qv
end
