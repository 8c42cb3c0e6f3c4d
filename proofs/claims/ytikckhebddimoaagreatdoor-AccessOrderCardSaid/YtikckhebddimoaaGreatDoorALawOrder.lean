/- The statement AccessOrder: exchanging two neighbouring rules that do not both fit changes nothing, for every input of the row. Conditions: the row's own (what it lists is laid by the program's text). -/
import Derived.Test.YtikckhebddimoaaGreatDoorNDoor
import Derived.Test.YtikckhebddimoaaGreatDoorNM
set_option linter.unusedVariables false
namespace Go.Proofs.YtikckhebddimoaaGreatDoor.accessOrder
open Go Qv door Go.ChangeShapes Go.WideShapes Go.ChangeAt Go.RowKit
theorem params : Tryz.f8.params = #[26, 35, 5] := Tryz.params8
set_option maxRecDepth 100000 in
theorem contract (H : Type) (enc : TypeId × Value → H) (W : World) (base : Nat) (args : Array Value) (ds gs : List (DataW H)) (before : List MemPlace)
    (hval : ∀ (j : Nat) t v, Tryz.f8.params[j]? = some t → args[j]? = some v → Value.okWide Tryz.prog W .any base t v)
    (hW : DataW.Whole enc Tryz.prog Tryz.f8.params.toList Rows.accessOrderSpec.vars false W args.toList ds gs before)
    (hsz : (DataW.weightsEach Tryz.prog (Tryz.f8.params.toList ++ (OpenSpec.ofChange Rows.accessOrderSpec).bare.plain.varTypes Tryz.prog) (ds ++ gs)).all (· ≤ reachBytes) = true)
    (hL : laidMetH Tryz.prog seven W) (hS : W.ShapedOpen Tryz.prog) :
    Calls Tryz.prog 8 args W fun e W' => ∃ v, e = .returned v ∧ Rows.accessOrderSpec.post enc Tryz.prog Tryz.f8 false true false false W args v W' := by
  obtain ⟨hJ, hn⟩ := listed hL hS
  have hg : gs = [] := whole_none hW
  have hlen : ds.length = 3 := (whole_len hW).trans (congrArg (fun a : Array TypeId => a.toList.length) params)
  subst hg
  match ds, hlen with
  | [d0, d1, d2], _ =>
  refine law_close (Cx := C) (fid := 8) (ts := aTypes) (tb := 4) (s := Rows.accessOrderSpec) (ds := [d0, d1, d2]) (gs := []) laid_out a_fine (by rw [params]; decide) (by rw [params]; kernel_rfl) (by kernel_rfl) (by kernel_rfl) Tryz.underlying4 ⟨rfl, rfl, rfl⟩ hval hW hJ hn ?_
  intro xs hx _ harg
  rw [params] at hx harg hsz
  match xs, hx with
  | [x0, x1, x2], _ =>
  obtain ⟨a, e0, s0⟩ := arg_P (harg 0 26 d0 x0 rfl rfl rfl) (weight_of hsz (i := 0) rfl rfl)
  obtain ⟨q, e1, s1⟩ := arg_Q (harg 1 35 d1 x1 rfl rfl rfl) (weight_of hsz (i := 1) rfl rfl)
  obtain ⟨n, e2, s2⟩ := arg_u8 (harg 2 5 d2 x2 rfl rfl rfl)
  rw [e0, e1, e2]
  exact order_law_ok a q n s2 s0
def wargs : Array Value := #[.agg #[.slice none 0 0, .slice none 0 0, .int .i64 0], .agg #[.string ⟨#[]⟩, .int .i64 0, .string ⟨#[]⟩, .string ⟨#[]⟩], .int .u8 0]
theorem laid_met (os : Os) : laidMet Tryz.prog Rows.accessOrderRow.laid ((laidWorld os).forCall (fun _ _ => 0) ⟨#[], wargs, []⟩).memory := seven_met os wargs
theorem reads (os : Os) {H : Type} (enc : TypeId × Value → H) : ∃ places, DataW.whole enc Tryz.prog ((laidWorld os).forCall (fun _ _ => 0) ⟨#[], wargs, []⟩).memory Tryz.f8.params.toList Rows.accessOrderSpec.vars false wargs.toList 8 = some ([.agg [.nil, .nil, .lit (.int .i64 0)], .agg [.lit (.string []), .lit (.int .i64 0), .lit (.string []), .lit (.string [])], .lit (.int .u8 0)], [], places) :=
  ⟨[], by kernel_rfl⟩
set_option maxRecDepth 100000 in
theorem lifted (os : Os) (started : os.Started) (H : Type) (enc : TypeId × Value → H) (F : Stop.Interp) :
    ReturnsInHanded {} Tryz.checked os 8 .any ((OpenSpec.ofChange Rows.accessOrderSpec).preRow enc Tryz.prog Tryz.f8 Rows.accessOrderRow.domain false Rows.accessOrderRow.laid) (((OpenSpec.ofChange Rows.accessOrderSpec).at F).post enc Tryz.prog Tryz.f8 false true false false) := by
  obtain ⟨places, hx⟩ := reads os enc
  refine returnsInHanded_of_row (C := Tryz.checked) (s := OpenSpec.ofChange Rows.accessOrderSpec) own started (by kernel_rfl) Tryz.func8
    (witness_row_atRef (enc := enc) (C := Tryz.checked) false (laidWorld os) wargs rfl (by kernel_rfl) (by kernel_rfl) (by kernel_rfl)
      (OpenSpec.preRow_of_cond 8 hx (by kernel_rfl) (fun k hk => by cases hk) (by kernel_rfl) (laid_met os))) ?_
  intro W base args ds gs before hval hW _ _ hsz hL hS _
  exact contract H enc W base args ds gs before hval hW hsz hL hS
theorem said : Rows.AccessOrderSaid :=
  OpenClaim.holds_of_cond 8 Tryz.f8 rfl rfl rfl rfl rfl rfl rfl ⟨rfl, rfl, rfl, rfl, rfl⟩ rfl rfl rfl rfl rfl (by kernel_rfl) Tryz.func8 (by kernel_rfl)
    (of_decide_eq_true (by kernel_rfl)) (by unfold Func.isWrapper; first | (rw [if_pos (by decide +kernel)]; kernel_rfl) | (rw [if_neg (by decide +kernel)]; exact ⟨rfl, rfl⟩))
    (fun os started H enc _ F => by rw [OpenClaim.pre_eq_preRow]; exact lifted os started H enc F)
theorem plain (f : FuncId) (fn : Func) (hf : Tryz.pinned.checked.prog.funcNamed "quilt/quiltlaw54.AccessOrder" = some f) (hfn : Tryz.pinned.checked.prog.funcs[f]? = some fn) :
    true = Tryz.pinned.checked.prog.looks [] ∧ ∀ (j : Nat) t, fn.params[j]? = some t → Tryz.pinned.checked.prog.wantsStandIn t = false := by
  obtain rfl : f = 8 := Option.some.inj ((show Tryz.prog.funcNamed "quilt/quiltlaw54.AccessOrder" = some 8 by kernel_rfl).symm.trans hf) |>.symm
  obtain rfl : fn = Tryz.f8 := (Option.some.inj (Tryz.func8.symm.trans hfn)).symm
  refine ⟨by kernel_rfl, fun j t ht => ?_⟩
  rw [params] at ht
  exact no_stand t (of_mem_params (by decide) ht)
theorem card : Rows.AccessOrderCardSaid :=
  Claim7.holds_tied_plain_at .later [] _ _ _ _ said (fun _ h => by cases h) (by kernel_rfl) (fun _ h => by cases h) accessOrder_row_tie rfl ⟨rfl, rfl⟩ (by kernel_rfl) rfl plain (by kernel_rfl)
end Go.Proofs.YtikckhebddimoaaGreatDoor.accessOrder
