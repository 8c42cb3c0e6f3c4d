/- The statement UnifiedRoundTrip: parsing the text of blocks yields the blocks, for every input of the row. Conditions: the row's own (what it lists is laid by the program's text). -/
import Derived.Test.YtbnnmamkplbdkaaDoorSDoor2
import Derived.Test.YtbnnmamkplbdkaaDoorSD
set_option linter.unusedVariables false
namespace Go.Proofs.YtbnnmamkplbdkaaDoor.unifiedRoundTrip
open Go Qv door Go.ChangeShapes Go.WideShapes Go.ChangeAt Go.RowKit

theorem params : Tryd.f10.params = #[26] := Tryd.params10

set_option maxRecDepth 100000 in
theorem contract (H : Type) (enc : TypeId × Value → H) (W : World) (base : Nat) (args : Array Value) (ds gs : List (DataW H)) (before : List MemPlace)
    (hval : ∀ (j : Nat) t v, Tryd.f10.params[j]? = some t → args[j]? = some v → Value.okWide Tryd.prog W .any base t v)
    (hW : DataW.Whole enc Tryd.prog Tryd.f10.params.toList Rows.unifiedRoundTripSpec.vars false W args.toList ds gs before)
    (hsz : (DataW.weightsEach Tryd.prog (Tryd.f10.params.toList ++ (OpenSpec.ofChange Rows.unifiedRoundTripSpec).bare.plain.varTypes Tryd.prog) (ds ++ gs)).all (· ≤ reachBytes) = true)
    (hL : laidMetH Tryd.prog five W) (hS : W.ShapedOpen Tryd.prog) :
    Calls Tryd.prog 10 args W fun e W' => ∃ v, e = .returned v ∧ Rows.unifiedRoundTripSpec.post enc Tryd.prog Tryd.f10 false true false false W args v W' := by
  obtain ⟨hJ, hn⟩ := listed5 hL hS
  have hg : gs = [] := whole_none hW
  have hlen : ds.length = 1 := (whole_len hW).trans (congrArg (fun a : Array TypeId => a.toList.length) params)
  subst hg
  match ds, hlen with
  | [d0], _ =>
  refine law_close (Cx := D) (fid := 10) (ts := uTypes) (tb := 4) (s := Rows.unifiedRoundTripSpec) (ds := [d0]) (gs := []) laid_out u_fine (by rw [params]; decide) (by rw [params]; kernel_rfl) (by kernel_rfl) (by kernel_rfl) Tryd.underlying4 ⟨rfl, rfl, rfl⟩ hval hW hJ hn ?_
  intro xs hx _ harg
  rw [params] at hx harg hsz
  match xs, hx with
  | [x0], _ =>
  obtain ⟨l, e0, s0⟩ := arg_B (harg 0 26 d0 x0 rfl rfl rfl) (weight_of hsz (i := 0) rfl rfl)
  rw [e0]
  exact round_law_ok l s0

def wargs : Array Value := #[.slice none 0 0]

theorem laid_met (os : Os) : laidMet Tryd.prog Rows.unifiedRoundTripRow.laid ((laidWorld5 os).forCall (fun _ _ => 0) ⟨#[], wargs, []⟩).memory := five_met os wargs
theorem reads (os : Os) {H : Type} (enc : TypeId × Value → H) : ∃ places, DataW.whole enc Tryd.prog ((laidWorld5 os).forCall (fun _ _ => 0) ⟨#[], wargs, []⟩).memory Tryd.f10.params.toList Rows.unifiedRoundTripSpec.vars false wargs.toList 8 = some ([.nil], [], places) :=
  ⟨[], by kernel_rfl⟩

set_option maxRecDepth 100000 in
theorem lifted (os : Os) (started : os.Started) (H : Type) (enc : TypeId × Value → H) (F : Stop.Interp) :
    ReturnsInHanded {} Tryd.checked os 10 .any ((OpenSpec.ofChange Rows.unifiedRoundTripSpec).preRow enc Tryd.prog Tryd.f10 Rows.unifiedRoundTripRow.domain false Rows.unifiedRoundTripRow.laid) (((OpenSpec.ofChange Rows.unifiedRoundTripSpec).at F).post enc Tryd.prog Tryd.f10 false true false false) := by
  obtain ⟨places, hx⟩ := reads os enc
  refine returnsInHanded_of_row (C := Tryd.checked) (s := OpenSpec.ofChange Rows.unifiedRoundTripSpec) own started (by kernel_rfl) Tryd.func10
    (witness_row_atRef (enc := enc) (C := Tryd.checked) false (laidWorld5 os) wargs rfl (by kernel_rfl) (by kernel_rfl) (by kernel_rfl)
      (OpenSpec.preRow_of_cond 8 hx (by kernel_rfl) (fun k hk => by cases hk) (by kernel_rfl) (laid_met os))) ?_
  intro W base args ds gs before hval hW _ _ hsz hL hS _
  exact contract H enc W base args ds gs before hval hW hsz hL hS

theorem said : Rows.UnifiedRoundTripSaid :=
  OpenClaim.holds_of_cond 10 Tryd.f10 rfl rfl rfl rfl rfl rfl rfl ⟨rfl, rfl, rfl, rfl, rfl⟩ rfl rfl rfl rfl rfl (by kernel_rfl) Tryd.func10 (by kernel_rfl)
    (of_decide_eq_true (by kernel_rfl)) (by unfold Func.isWrapper; first | (rw [if_pos (by decide +kernel)]; kernel_rfl) | (rw [if_neg (by decide +kernel)]; exact ⟨rfl, rfl⟩))
    (fun os started H enc _ F => by rw [OpenClaim.pre_eq_preRow]; exact lifted os started H enc F)

theorem plain (f : FuncId) (fn : Func) (hf : Tryd.pinned.checked.prog.funcNamed "quilt/quiltlaw10.UnifiedRoundTrip" = some f) (hfn : Tryd.pinned.checked.prog.funcs[f]? = some fn) :
    true = Tryd.pinned.checked.prog.looks [] ∧ ∀ (j : Nat) t, fn.params[j]? = some t → Tryd.pinned.checked.prog.wantsStandIn t = false := by
  obtain rfl : f = 10 := Option.some.inj ((show Tryd.prog.funcNamed "quilt/quiltlaw10.UnifiedRoundTrip" = some 10 by kernel_rfl).symm.trans hf) |>.symm
  obtain rfl : fn = Tryd.f10 := (Option.some.inj (Tryd.func10.symm.trans hfn)).symm
  refine ⟨by kernel_rfl, fun j t ht => ?_⟩
  rw [params] at ht
  exact no_stand t (of_mem_params (by decide) ht)

/-- The card. -/
theorem card : Rows.UnifiedRoundTripCardSaid :=
  Claim7.holds_tied_plain_at .later [] _ _ _ _ said (fun _ h => by cases h) (by kernel_rfl) (fun _ h => by cases h) unifiedRoundTrip_row_tie rfl ⟨rfl, rfl⟩ (by kernel_rfl) rfl plain (by kernel_rfl)

end Go.Proofs.YtbnnmamkplbdkaaDoor.unifiedRoundTrip
