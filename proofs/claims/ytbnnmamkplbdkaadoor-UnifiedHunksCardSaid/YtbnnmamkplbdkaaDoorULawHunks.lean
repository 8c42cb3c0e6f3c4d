/- The statement UnifiedHunks: the hunks of the blocks of hunks are these hunks, for every input of the row. Conditions: the row's own (what it lists is laid by the program's text). -/
import Derived.Test.YtbnnmamkplbdkaaDoorRDoor
import Derived.Test.YtbnnmamkplbdkaaDoorRA
set_option linter.unusedVariables false
namespace Go.Proofs.YtbnnmamkplbdkaaDoor.unifiedHunks
open Go Qv door Go.ChangeShapes Go.WideShapes Go.ChangeAt Go.RowKit

theorem params : Tryd.f9.params = #[22, 23, 5] := Tryd.params9

set_option maxRecDepth 100000 in
theorem contract (H : Type) (enc : TypeId × Value → H) (W : World) (base : Nat) (args : Array Value) (ds gs : List (DataW H)) (before : List MemPlace)
    (hval : ∀ (j : Nat) t v, Tryd.f9.params[j]? = some t → args[j]? = some v → Value.okWide Tryd.prog W .any base t v)
    (hW : DataW.Whole enc Tryd.prog Tryd.f9.params.toList Rows.unifiedHunksSpec.vars false W args.toList ds gs before)
    (hsz : (DataW.weightsEach Tryd.prog (Tryd.f9.params.toList ++ (OpenSpec.ofChange Rows.unifiedHunksSpec).bare.plain.varTypes Tryd.prog) (ds ++ gs)).all (· ≤ reachBytes) = true)
    (hL : laidMetH Tryd.prog three W) :
    Calls Tryd.prog 9 args W fun e W' => ∃ v, e = .returned v ∧ Rows.unifiedHunksSpec.post enc Tryd.prog Tryd.f9 false true false false W args v W' := by
  obtain ⟨hJ, hn⟩ := listed hL
  have hg : gs = [] := whole_none hW
  have hlen : ds.length = 3 := (whole_len hW).trans (congrArg (fun a : Array TypeId => a.toList.length) params)
  subst hg
  match ds, hlen with
  | [d0, d1, d2], _ =>
  refine law_close (Cx := C) (fid := 9) (ts := uTypes) (tb := 4) (s := Rows.unifiedHunksSpec) (ds := [d0, d1, d2]) (gs := []) laid_out u_fine (by rw [params]; decide) (by rw [params]; kernel_rfl) (by kernel_rfl) (by kernel_rfl) Tryd.underlying4 ⟨rfl, rfl, rfl⟩ hval hW hJ hn ?_
  intro xs hx _ harg
  rw [params] at hx harg hsz
  match xs, hx with
  | [x0, x1, x2], _ =>
  obtain ⟨a, e0, s0⟩ := arg_S (harg 0 22 d0 x0 rfl rfl rfl) (weight_of hsz (i := 0) rfl rfl)
  obtain ⟨l, e1, s1⟩ := arg_H (harg 1 23 d1 x1 rfl rfl rfl) (weight_of hsz (i := 1) rfl rfl)
  obtain ⟨n, e2, s2⟩ := arg_u8 (harg 2 5 d2 x2 rfl rfl rfl)
  rw [e0, e1, e2]
  exact hunks_law_ok a l n s2 s0 s1

def wargs : Array Value := #[.slice none 0 0, .slice none 0 0, .int .u8 0]

theorem laid_met (os : Os) : laidMet Tryd.prog Rows.unifiedHunksRow.laid ((laidWorld os).forCall (fun _ _ => 0) ⟨#[], wargs, []⟩).memory :=
  laidMet_of_run' 8 (by kernel_rfl) (by kernel_rfl)
theorem reads (os : Os) {H : Type} (enc : TypeId × Value → H) : ∃ places, DataW.whole enc Tryd.prog ((laidWorld os).forCall (fun _ _ => 0) ⟨#[], wargs, []⟩).memory Tryd.f9.params.toList Rows.unifiedHunksSpec.vars false wargs.toList 8 = some ([.nil, .nil, .lit (.int .u8 0)], [], places) :=
  ⟨[], by kernel_rfl⟩

set_option maxRecDepth 100000 in
theorem lifted (os : Os) (started : os.Started) (H : Type) (enc : TypeId × Value → H) (F : Stop.Interp) :
    ReturnsInHanded {} Tryd.checked os 9 .any ((OpenSpec.ofChange Rows.unifiedHunksSpec).preRow enc Tryd.prog Tryd.f9 Rows.unifiedHunksRow.domain false Rows.unifiedHunksRow.laid) (((OpenSpec.ofChange Rows.unifiedHunksSpec).at F).post enc Tryd.prog Tryd.f9 false true false false) := by
  obtain ⟨places, hx⟩ := reads os enc
  refine returnsInHanded_of_row (C := Tryd.checked) (s := OpenSpec.ofChange Rows.unifiedHunksSpec) own started (by kernel_rfl) Tryd.func9
    (witness_row_at (enc := enc) (C := Tryd.checked) false (laidWorld os) wargs rfl (by kernel_rfl) (by kernel_rfl) (by kernel_rfl)
      (OpenSpec.preRow_of_cond 8 hx (by kernel_rfl) (fun k hk => by cases hk) (by kernel_rfl) (laid_met os))) ?_
  intro W base args ds gs before hval hW _ _ hsz hL _ _
  exact contract H enc W base args ds gs before hval hW hsz hL

theorem said : Rows.UnifiedHunksSaid :=
  OpenClaim.holds_of_cond 9 Tryd.f9 rfl rfl rfl rfl rfl rfl rfl ⟨rfl, rfl, rfl, rfl, rfl⟩ rfl rfl rfl rfl rfl (by kernel_rfl) Tryd.func9 (by kernel_rfl)
    (of_decide_eq_true (by kernel_rfl)) (by unfold Func.isWrapper; first | (rw [if_pos (by decide +kernel)]; kernel_rfl) | (rw [if_neg (by decide +kernel)]; exact ⟨rfl, rfl⟩))
    (fun os started H enc _ F => by rw [OpenClaim.pre_eq_preRow]; exact lifted os started H enc F)

theorem plain (f : FuncId) (fn : Func) (hf : Tryd.pinned.checked.prog.funcNamed "quilt/quiltlaw10.UnifiedHunks" = some f) (hfn : Tryd.pinned.checked.prog.funcs[f]? = some fn) :
    true = Tryd.pinned.checked.prog.looks [] ∧ ∀ (j : Nat) t, fn.params[j]? = some t → Tryd.pinned.checked.prog.wantsStandIn t = false := by
  obtain rfl : f = 9 := Option.some.inj ((show Tryd.prog.funcNamed "quilt/quiltlaw10.UnifiedHunks" = some 9 by kernel_rfl).symm.trans hf) |>.symm
  obtain rfl : fn = Tryd.f9 := (Option.some.inj (Tryd.func9.symm.trans hfn)).symm
  refine ⟨by kernel_rfl, fun j t ht => ?_⟩
  rw [params] at ht
  exact no_stand t (of_mem_params (by decide) ht)

/-- The card. -/
theorem card : Rows.UnifiedHunksCardSaid :=
  Claim7.holds_tied_plain_at .later [] _ _ _ _ said (fun _ h => by cases h) (by kernel_rfl) (fun _ h => by cases h) unifiedHunks_row_tie rfl ⟨rfl, rfl⟩ (by kernel_rfl) rfl plain (by kernel_rfl)

end Go.Proofs.YtbnnmamkplbdkaaDoor.unifiedHunks
