/- Several texts in one: Contracts of the reference's queries: count, part, parts, Check, long, Great, Same and what follows. No condition. -/
import Derived.Test.YtpoefbbfhebakaaGreatDoorL4
import Derived.Test.YtpoefbbfhebakaaGreatDoorLv4
import Derived.Test.YtpoefbbfhebakaaGreatDoorL7
set_option linter.unusedVariables false
set_option linter.unusedSimpArgs false

section
open Go Go.Proofs Go.RowKit
namespace Qv
theorem encQyL_len (l : List Qy) : (encQyL l).length = l.length := by
 rw [encQyL_map,List.length_map]
theorem get_q {l : List Qy} {i : Nat} (h : i < l.length) : ∃ k t n m,l[i]? = some (.mk k t n m) := by
 rw [List.getElem?_eq_getElem h]
 generalize l[i] = q
 obtain ⟨k,t,n,m⟩ := q
 exact ⟨k,t,n,m,rfl⟩
theorem idx_q {l : List Qy} {i : Nat} {k : Int} {t : Bytes} {n : Int} {m : List Qy} (h : l[i]? = some (.mk k t n m)) : (encQyL l)[((i : Nat) : Int).toNat]? = some [.int .i64 k,.str t,.int .i64 n,.sl (encQyL m)] := by
 rw [encQyL_map,Int.toNat_natCast,List.getElem?_map,h]; rfl
theorem drop_at {α : Type} {l : List α} {k : Nat} {c : α} (h : l[k]? = some c) : l.drop k = c :: l.drop (k + 1) := by
 have hi := List.getElem?_eq_some_iff.1 h
 rw [List.drop_eq_getElem_cons hi.1,hi.2]
theorem al_ltq {l : List Qy} {i : Nat} {K : Bool → Prop} (h1 : i < l.length → K true) (h2 : ¬ i < l.length → K false) : Al fun t : Bool => t = decide ((i : Int) < ((encQyL l).length : Int)) → K t :=
 al_dec (fun h => h1 (by rw [encQyL_len] at h; omega)) (fun h => h2 (fun e => h (by rw [encQyL_len]; omega)))
mutual
def szQ : Qy → Prop
 | .mk _ t _ l => t.length ≤ 2 ^ 47 ∧ l.length ≤ 2 ^ 47 ∧ szL l
def szL : List Qy → Prop
 | [] => True
 | q :: l => szQ q ∧ szL l
end
theorem szL_iff : ∀ {l : List Qy},szL l ↔ ∀ x,x ∈ l → szQ x
 | [] => by simp [szL]
 | q :: l => by
   show szQ q ∧ szL l ↔ _
   rw [szL_iff]
   simp
theorem szQ_mk {k : Int} {t : Bytes} {n : Int} {l : List Qy} : szQ (.mk k t n l) ↔ t.length ≤ 2 ^ 47 ∧ l.length ≤ 2 ^ 47 ∧ ∀ x,x ∈ l → szQ x := by
 show _ ∧ _ ∧ szL l ↔ _
 rw [szL_iff]
end Qv

end

section
open Go Go.Proofs Go.RowKit
namespace Qv
def globB (t : Bytes) : Bool := decide ((parseF t).2 = 0)
theorem fin_b {c : Prop} [Decidable c] (b : Bool) (h : decide c = b) : FV.p (.bool b) = .p (.bool (decide c)) := by rw [h]
end Qv

end

section
open Go Go.Proofs Go.RowKit
namespace Qv
theorem allE_mk (G : Bytes → Bool) (k : Int) (t : Bytes) (n : Int) (l : List Qy) : allE G (.mk k t n l) = if partF G k t n l.length = 0 then allEL G l else partF G k t n l.length := rfl
theorem allEL_cons (G : Bytes → Bool) (q : Qy) (l : List Qy) : allEL G (q :: l) = if allE G q = 0 then allEL G l else allE G q := rfl
end Qv

end
