/- What the arguments of the laws on queries read as. No condition. -/
import Derived.Test.YtpoefbbfhebakaaGreatDoorC8
import Derived.Test.YtpoefbbfhebakaaGreatDoorCv4
set_option linter.unusedVariables false
set_option linter.unusedSimpArgs false
open Go Go.Proofs
namespace Qv
theorem laid_out : laidOutB Tryz.prog = true := by kernel_rfl
section
variable {H : Type} {d : DataW H} {xs : List AV}
theorem inv_str (h : DRep Tryz.prog 9 d xs) : ∃ s,xs = enc1 s := DRep.str_inv Tryz.underlying9 h
theorem inv_int (h : DRep Tryz.prog 3 d xs) : ∃ n,xs = [.int .i64 n] ∧ (Lit.int .i64 n).wf = true := DRep.int_inv Tryz.underlying3 h
theorem list_q (ys : List (List AV)) (h : ∀ x,x ∈ ys → ∃ q,x = encQy q) : ∃ l,ys = encQyL l := by
 induction ys with
 | nil => exact ⟨[],rfl⟩
 | cons x ys ih =>
   obtain ⟨q,rfl⟩ := h x List.mem_cons_self
   obtain ⟨l,rfl⟩ := ih fun y hy => h y (List.mem_cons_of_mem _ hy)
   exact ⟨q :: l,rfl⟩
theorem inv_both {t : TypeId} (h : DRep Tryz.prog t d xs) : (t = 24 → ∃ q,xs = encQy q) ∧ (t = 22 → ∃ l,xs = [.sl (encQyL l)]) := by
 induction h with
 | bool t b h => exact ⟨fun e => (by subst e; rw [Tryz.underlying24] at h; cases h),fun e => by subst e; rw [Tryz.underlying22] at h; cases h⟩
 | int t k n h _ => exact ⟨fun e => (by subst e; rw [Tryz.underlying24] at h; cases h),fun e => by subst e; rw [Tryz.underlying22] at h; cases h⟩
 | str t s h => exact ⟨fun e => (by subst e; rw [Tryz.underlying24] at h; cases h),fun e => by subst e; rw [Tryz.underlying22] at h; cases h⟩
 | nil t e h => exact ⟨fun e => (by subst e; rw [Tryz.underlying24] at h; cases h),fun _ => ⟨[],rfl⟩⟩
 | slice t e ds sp ys h1 h2 h3 ih =>
   refine ⟨fun e => (by subst e; rw [Tryz.underlying24] at h1; cases h1),fun ht => ?_⟩
   subst ht
   rw [Tryz.underlying22] at h1
   obtain rfl : 24 = e := by simpa using h1
   obtain ⟨l,rfl⟩ := list_q ys fun x hx => by
    obtain ⟨i,hi⟩ := List.getElem?_of_mem hx
    have hlt : i < ds.length := by rw [h2]; exact (List.getElem?_eq_some_iff.1 hi).1
    exact (ih i _ x (List.getElem?_eq_getElem hlt) hi).1 rfl
   exact ⟨l,rfl⟩
 | struct t fs ds ps h1 h2 h3 h4 ih =>
   refine ⟨fun ht => ?_,fun e => by subst e; rw [Tryz.underlying22] at h1; cases h1⟩
   subst ht
   rw [Tryz.underlying24] at h1
   have hfs := Option.some.inj h1
   injection hfs with hfs
   subst hfs
   match ds,ps,h2,h3 with
   | [d0,d1,d2,d3],[p0,p1,p2,p3],_,_ =>
     obtain ⟨k,rfl,_⟩ := inv_int (h4 0 _ _ _ rfl rfl rfl)
     obtain ⟨t,rfl⟩ := inv_str (h4 1 _ _ _ rfl rfl rfl)
     obtain ⟨n,rfl,_⟩ := inv_int (h4 2 _ _ _ rfl rfl rfl)
     obtain ⟨l,rfl⟩ := (ih 3 _ _ _ rfl rfl rfl).2 rfl
     exact ⟨.mk k t n l,rfl⟩
 | arr t e n ds ps h _ _ _ _ => exact ⟨fun e => (by subst e; rw [Tryz.underlying24] at h; cases h),fun e => by subst e; rw [Tryz.underlying22] at h; cases h⟩
theorem inv_query (h : DRep Tryz.prog 24 d xs) : ∃ q,xs = encQy q := (inv_both h).1 rfl
end
theorem sz_query (q : Qy) : (∀ y,y ∈ encQy q → AV.Small (2 ^ 47) y) → szQ q := by
 refine Qy.ind (P := fun q => (∀ y,y ∈ encQy q → AV.Small (2 ^ 47) y) → szQ q) ?_ q
 intro k t n l ih h
 have ht := (h (.str t) (by show _ ∈ [AV.int .i64 k,.str t,.int .i64 n,.sl (encQyL l)]; simp)).str_inv
 obtain ⟨h1,h2⟩ := (h (.sl (encQyL l)) (by show _ ∈ [AV.int .i64 k,.str t,.int .i64 n,.sl (encQyL l)]; simp)).sl_inv
 refine szQ_mk.2 ⟨ht,by rw [encQyL_len] at h1; exact h1,fun x hx => ih x hx fun y hy => ?_⟩
 refine h2 (encQy x) ?_ y hy
 rw [encQyL_map]
 exact List.mem_map_of_mem hx
end Qv

