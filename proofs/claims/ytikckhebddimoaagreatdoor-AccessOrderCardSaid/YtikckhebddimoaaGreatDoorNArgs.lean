/- What the arguments of the Access laws read as. No condition. -/
import Derived.Test.YtikckhebddimoaaGreatDoorNH
import Derived.Test.YtikckhebddimoaaGreatDoorTw4
set_option linter.unusedVariables false
open Go Go.Proofs
namespace Qv
theorem laid_out : laidOutB Tryz.prog = true := by kernel_rfl
def aTypes : List TypeId := [3, 4, 5, 9, 23, 24, 26, 33, 35, 39, 44]
theorem a_fine : fineTs Tryz.prog aTypes = true := by kernel_rfl
theorem bytes_fine : bytesFine Tryz.prog aTypes = true := by kernel_rfl
section
variable {H : Type} {d : DataW H} {xs : List AV}
theorem inv_str (h : DRep Tryz.prog 9 d xs) : ∃ s, xs = enc1 s := DRep.str_inv Tryz.underlying9 h
theorem inv_S (h : DRep Tryz.prog 39 d xs) : ∃ a, xs = [encS a] := DRep.slice_inv Tryz.underlying39 (fun _ _ h => inv_str h) h
theorem inv_int (h : DRep Tryz.prog 3 d xs) : ∃ n, xs = [.int .i64 n] ∧ (Lit.int .i64 n).wf = true := DRep.int_inv Tryz.underlying3 h
theorem inv_bool (h : DRep Tryz.prog 4 d xs) : ∃ b, xs = [.bool b] := DRep.bool_inv Tryz.underlying4 h
theorem inv_group (h : DRep Tryz.prog 44 d xs) : ∃ y, xs = encGroup y := by
  obtain ⟨ds, ps, rfl, rfl, h1, h2, h3⟩ := DRep.struct_inv Tryz.underlying44 h
  match ds, ps, h1, h2 with
  | [d0, d1], [p0, p1], _, _ =>
    obtain ⟨n, rfl⟩ := inv_str (h3 0 _ _ _ rfl rfl rfl)
    obtain ⟨m, rfl⟩ := inv_S (h3 1 _ _ _ rfl rfl rfl)
    exact ⟨⟨n, m⟩, rfl⟩
theorem inv_Gs (h : DRep Tryz.prog 23 d xs) : ∃ a, xs = [encGroups a] := DRep.slice_inv Tryz.underlying23 (fun _ _ h => inv_group h) h
theorem inv_rule (h : DRep Tryz.prog 33 d xs) : ∃ y, xs = encRule y := by
  obtain ⟨ds, ps, rfl, rfl, h1, h2, h3⟩ := DRep.struct_inv Tryz.underlying33 h
  match ds, ps, h1, h2 with
  | [d0, d1, d2, d3, d4], [p0, p1, p2, p3, p4], _, _ =>
    obtain ⟨b, rfl⟩ := inv_bool (h3 0 _ _ _ rfl rfl rfl)
    obtain ⟨w, rfl⟩ := inv_str (h3 1 _ _ _ rfl rfl rfl)
    obtain ⟨n, rfl, _⟩ := inv_int (h3 2 _ _ _ rfl rfl rfl)
    obtain ⟨r, rfl⟩ := inv_str (h3 3 _ _ _ rfl rfl rfl)
    obtain ⟨p, rfl⟩ := inv_str (h3 4 _ _ _ rfl rfl rfl)
    exact ⟨⟨b, w, n, r, p⟩, rfl⟩
theorem inv_Rs (h : DRep Tryz.prog 24 d xs) : ∃ a : List Rule, xs = [.sl (a.map encRule)] := DRep.slice_inv Tryz.underlying24 (fun _ _ h => inv_rule h) h
theorem inv_P (h : DRep Tryz.prog 26 d xs) : ∃ y, xs = encAccess y := by
  obtain ⟨ds, ps, rfl, rfl, h1, h2, h3⟩ := DRep.struct_inv Tryz.underlying26 h
  match ds, ps, h1, h2 with
  | [d0, d1, d2], [p0, p1, p2], _, _ =>
    obtain ⟨g, rfl⟩ := inv_Gs (h3 0 _ _ _ rfl rfl rfl)
    obtain ⟨r, rfl⟩ := inv_Rs (h3 1 _ _ _ rfl rfl rfl)
    obtain ⟨n, rfl, _⟩ := inv_int (h3 2 _ _ _ rfl rfl rfl)
    exact ⟨⟨g, r, n⟩, rfl⟩
theorem inv_Q (h : DRep Tryz.prog 35 d xs) : ∃ y, xs = encQ y := by
  obtain ⟨ds, ps, rfl, rfl, h1, h2, h3⟩ := DRep.struct_inv Tryz.underlying35 h
  match ds, ps, h1, h2 with
  | [d0, d1, d2, d3], [p0, p1, p2, p3], _, _ =>
    obtain ⟨w, rfl⟩ := inv_str (h3 0 _ _ _ rfl rfl rfl)
    obtain ⟨n, rfl, _⟩ := inv_int (h3 1 _ _ _ rfl rfl rfl)
    obtain ⟨b, rfl⟩ := inv_str (h3 2 _ _ _ rfl rfl rfl)
    obtain ⟨p, rfl⟩ := inv_str (h3 3 _ _ _ rfl rfl rfl)
    exact ⟨⟨w, n, b, p⟩, rfl⟩
end
theorem sz_S {a : List Bytes} (h : AV.Small (2 ^ 47) (encS a)) : a.length ≤ 2 ^ 47 ∧ ∀ s, s ∈ a → s.length ≤ 2 ^ 47 := by
  obtain ⟨h1, h2⟩ := h.sl_inv
  refine ⟨by simpa using h1, fun s hs => ?_⟩
  exact (h2 (enc1 s) (List.mem_map_of_mem hs) (.str s) (by simp [enc1])).str_inv
theorem sz_A {a : Access} (h1 : AV.Small (2 ^ 47) (encGroups a.groups)) (h2 : AV.Small (2 ^ 47) (.sl (a.rules.map encRule))) : SzA a := by
  obtain ⟨g1, g2⟩ := h1.sl_inv
  obtain ⟨r1, r2⟩ := h2.sl_inv
  refine ⟨by simpa using g1, by simpa using r1, fun g hg => ?_, fun r hr => ?_⟩
  · have := g2 (encGroup g) (List.mem_map_of_mem hg)
    have hm := sz_S (this (encS g.members) (by simp [encGroup]))
    exact ⟨(this (.str g.name) (by simp [encGroup])).str_inv, hm.1, hm.2⟩
  · have := r2 (encRule r) (List.mem_map_of_mem hr)
    exact ⟨(this (.str r.who) (by simp [encRule])).str_inv, (this (.str r.ref) (by simp [encRule])).str_inv, (this (.str r.path) (by simp [encRule])).str_inv⟩
theorem arg_one {H : Type} {t : TypeId} {d : DataW H} {x : AV} (hm : t ∈ aTypes) (h : DArg Tryz.prog t d x) (hw : ∀ n, n ∈ d.weights Tryz.prog t → n ≤ reachBytes) :
    ∃ ys, DRep Tryz.prog t d ys ∧ x = avOf Tryz.prog t ys ∧ ∀ y, y ∈ ys → AV.Small (2 ^ 47) y := by
  obtain ⟨ys, h1, h2⟩ := h
  exact ⟨ys, h1, h2, h1.small a_fine bytes_fine hm fun n hn => by have := hw n hn; unfold reachBytes at this; omega⟩
theorem arg_P {H : Type} {d : DataW H} {x : AV} (h : DArg Tryz.prog 26 d x) (hw : ∀ n, n ∈ d.weights Tryz.prog 26 → n ≤ reachBytes) : ∃ a, x = .agg (encAccess a) ∧ SzA a := by
  obtain ⟨ys, h1, h2, h3⟩ := arg_one (by decide) h hw
  obtain ⟨a, rfl⟩ := inv_P h1
  exact ⟨a, h2.trans (avOf_agg Tryz.underlying26), sz_A (h3 _ (by simp [encAccess])) (h3 _ (by simp [encAccess]))⟩
theorem arg_Q {H : Type} {d : DataW H} {x : AV} (h : DArg Tryz.prog 35 d x) (hw : ∀ n, n ∈ d.weights Tryz.prog 35 → n ≤ reachBytes) : ∃ a, x = .agg (encQ a) ∧ True := by
  obtain ⟨ys, h1, h2, h3⟩ := arg_one (by decide) h hw
  obtain ⟨a, rfl⟩ := inv_Q h1
  exact ⟨a, h2.trans (avOf_agg Tryz.underlying35), trivial⟩
theorem arg_u8 {H : Type} {d : DataW H} {x : AV} (h : DArg Tryz.prog 5 d x) : ∃ n : Nat, x = .int .u8 n ∧ n < 256 := by
  obtain ⟨ys, h1, h2⟩ := h
  obtain ⟨n, rfl, hn⟩ := DRep.int_inv Tryz.underlying5 h1
  have := bounds_u8 hn
  exact ⟨n.toNat, h2.trans ((avOf_one Tryz.underlying5 (fun _ h => by cases h)).trans (by rw [Int.toNat_of_nonneg this.1])), by omega⟩
end Qv

