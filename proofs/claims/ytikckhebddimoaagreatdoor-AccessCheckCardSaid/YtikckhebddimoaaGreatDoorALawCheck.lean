/- The statement AccessCheck: Check and Print return what the reference returns, for every input of the row. Conditions: the row's own (what it lists is laid by the program's text). -/
import Derived.Test.YtikckhebddimoaaGreatDoorKDoor
import Derived.Test.YtikckhebddimoaaGreatDoorKL
set_option linter.unusedVariables false
namespace Go.Proofs.YtikckhebddimoaaGreatDoor.accessCheck
open Go Qv door Go.ChangeShapes Go.WideShapes Go.ChangeAt Go.RowKit
theorem params : Tryz.f9.params = #[26] := Tryz.params9
set_option maxRecDepth 100000 in
theorem contract (H : Type) (enc : TypeId × Value → H) (W : World) (base : Nat) (args : Array Value) (ds gs : List (DataW H)) (before : List MemPlace)
    (hval : ∀ (j : Nat) t v, Tryz.f9.params[j]? = some t → args[j]? = some v → Value.okWide Tryz.prog W .any base t v)
    (hW : DataW.Whole enc Tryz.prog Tryz.f9.params.toList Rows.accessCheckSpec.vars false W args.toList ds gs before)
    (hsz : (DataW.weightsEach Tryz.prog (Tryz.f9.params.toList ++ (OpenSpec.ofChange Rows.accessCheckSpec).bare.plain.varTypes Tryz.prog) (ds ++ gs)).all (· ≤ reachBytes) = true)
    (hL : laidMetH Tryz.prog seven W) (hS : W.ShapedOpen Tryz.prog) :
    Calls Tryz.prog 9 args W fun e W' => ∃ v, e = .returned v ∧ Rows.accessCheckSpec.post enc Tryz.prog Tryz.f9 false true false false W args v W' := by
  obtain ⟨hJ, hn⟩ := listed hL hS
  have hg : gs = [] := whole_none hW
  have hlen : ds.length = 1 := (whole_len hW).trans (congrArg (fun a : Array TypeId => a.toList.length) params)
  subst hg
  match ds, hlen with
  | [d0], _ =>
  refine law_close (Cx := C) (fid := 9) (ts := aTypes) (tb := 4) (s := Rows.accessCheckSpec) (ds := [d0]) (gs := []) laid_out a_fine (by rw [params]; decide) (by rw [params]; kernel_rfl) (by kernel_rfl) (by kernel_rfl) Tryz.underlying4 ⟨rfl, rfl, rfl⟩ hval hW hJ hn ?_
  intro xs hx _ harg
  rw [params] at hx harg hsz
  match xs, hx with
  | [x0], _ =>
  obtain ⟨a, e0, s0⟩ := arg_P (harg 0 26 d0 x0 rfl rfl rfl) (weight_of hsz (i := 0) rfl rfl)
  rw [e0]
  exact check_law_ok a s0
def wargs : Array Value := #[.agg #[.slice none 0 0, .slice none 0 0, .int .i64 0]]
theorem laid_met (os : Os) : laidMet Tryz.prog Rows.accessCheckRow.laid ((laidWorld os).forCall (fun _ _ => 0) ⟨#[], wargs, []⟩).memory := seven_met os wargs
theorem reads (os : Os) {H : Type} (enc : TypeId × Value → H) : ∃ places, DataW.whole enc Tryz.prog ((laidWorld os).forCall (fun _ _ => 0) ⟨#[], wargs, []⟩).memory Tryz.f9.params.toList Rows.accessCheckSpec.vars false wargs.toList 8 = some ([.agg [.nil, .nil, .lit (.int .i64 0)]], [], places) :=
  ⟨[], by kernel_rfl⟩
set_option maxRecDepth 100000 in
theorem lifted (os : Os) (started : os.Started) (H : Type) (enc : TypeId × Value → H) (F : Stop.Interp) :
    ReturnsInHanded {} Tryz.checked os 9 .any ((OpenSpec.ofChange Rows.accessCheckSpec).preRow enc Tryz.prog Tryz.f9 Rows.accessCheckRow.domain false Rows.accessCheckRow.laid) (((OpenSpec.ofChange Rows.accessCheckSpec).at F).post enc Tryz.prog Tryz.f9 false true false false) := by
  obtain ⟨places, hx⟩ := reads os enc
  refine returnsInHanded_of_row (C := Tryz.checked) (s := OpenSpec.ofChange Rows.accessCheckSpec) own started (by kernel_rfl) Tryz.func9
    (witness_row_atRef (enc := enc) (C := Tryz.checked) false (laidWorld os) wargs rfl (by kernel_rfl) (by kernel_rfl) (by kernel_rfl)
      (OpenSpec.preRow_of_cond 8 hx (by kernel_rfl) (fun k hk => by cases hk) (by kernel_rfl) (laid_met os))) ?_
  intro W base args ds gs before hval hW _ _ hsz hL hS _
  exact contract H enc W base args ds gs before hval hW hsz hL hS
theorem said : Rows.AccessCheckSaid :=
  OpenClaim.holds_of_cond 9 Tryz.f9 rfl rfl rfl rfl rfl rfl rfl ⟨rfl, rfl, rfl, rfl, rfl⟩ rfl rfl rfl rfl rfl (by kernel_rfl) Tryz.func9 (by kernel_rfl)
    (of_decide_eq_true (by kernel_rfl)) (by unfold Func.isWrapper; first | (rw [if_pos (by decide +kernel)]; kernel_rfl) | (rw [if_neg (by decide +kernel)]; exact ⟨rfl, rfl⟩))
    (fun os started H enc _ F => by rw [OpenClaim.pre_eq_preRow]; exact lifted os started H enc F)
theorem plain (f : FuncId) (fn : Func) (hf : Tryz.pinned.checked.prog.funcNamed "quilt/quiltlaw54.AccessCheck" = some f) (hfn : Tryz.pinned.checked.prog.funcs[f]? = some fn) :
    true = Tryz.pinned.checked.prog.looks [] ∧ ∀ (j : Nat) t, fn.params[j]? = some t → Tryz.pinned.checked.prog.wantsStandIn t = false := by
  obtain rfl : f = 9 := Option.some.inj ((show Tryz.prog.funcNamed "quilt/quiltlaw54.AccessCheck" = some 9 by kernel_rfl).symm.trans hf) |>.symm
  obtain rfl : fn = Tryz.f9 := (Option.some.inj (Tryz.func9.symm.trans hfn)).symm
  refine ⟨by kernel_rfl, fun j t ht => ?_⟩
  rw [params] at ht
  exact no_stand t (of_mem_params (by decide) ht)
theorem card : Rows.AccessCheckCardSaid :=
  Claim7.holds_tied_plain_at .later [] _ _ _ _ said (fun _ h => by cases h) (by kernel_rfl) (fun _ h => by cases h) accessCheck_row_tie rfl ⟨rfl, rfl⟩ (by kernel_rfl) rfl plain (by kernel_rfl)
end Go.Proofs.YtikckhebddimoaaGreatDoor.accessCheck
