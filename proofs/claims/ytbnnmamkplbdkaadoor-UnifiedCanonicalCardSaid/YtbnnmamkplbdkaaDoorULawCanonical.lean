/- The statement UnifiedCanonical: what can be parsed is the text of its blocks; otherwise the line is one of the string's or the one behind it, for every input of the row. Conditions: the row's own (what it lists is laid by the program's text). -/
import Derived.Test.YtbnnmamkplbdkaaDoorSDoor2
import Derived.Test.YtbnnmamkplbdkaaDoorSD
set_option linter.unusedVariables false
namespace Go.Proofs.YtbnnmamkplbdkaaDoor.unifiedCanonical
open Go Qv door Go.ChangeShapes Go.WideShapes Go.ChangeAt Go.RowKit

theorem params : Tryd.f11.params = #[9] := Tryd.params11

set_option maxRecDepth 100000 in
theorem contract (H : Type) (enc : TypeId × Value → H) (W : World) (base : Nat) (args : Array Value) (ds gs : List (DataW H)) (before : List MemPlace)
    (hval : ∀ (j : Nat) t v, Tryd.f11.params[j]? = some t → args[j]? = some v → Value.okWide Tryd.prog W .any base t v)
    (hW : DataW.Whole enc Tryd.prog Tryd.f11.params.toList Rows.unifiedCanonicalSpec.vars false W args.toList ds gs before)
    (hsz : (DataW.weightsEach Tryd.prog (Tryd.f11.params.toList ++ (OpenSpec.ofChange Rows.unifiedCanonicalSpec).bare.plain.varTypes Tryd.prog) (ds ++ gs)).all (· ≤ reachBytes) = true)
    (hL : laidMetH Tryd.prog five W) (hS : W.ShapedOpen Tryd.prog) :
    Calls Tryd.prog 11 args W fun e W' => ∃ v, e = .returned v ∧ Rows.unifiedCanonicalSpec.post enc Tryd.prog Tryd.f11 false true false false W args v W' := by
  obtain ⟨hJ, hn⟩ := listed5 hL hS
  have hg : gs = [] := whole_none hW
  have hlen : ds.length = 1 := (whole_len hW).trans (congrArg (fun a : Array TypeId => a.toList.length) params)
  subst hg
  match ds, hlen with
  | [d0], _ =>
  refine law_close (Cx := D) (fid := 11) (ts := uTypes) (tb := 4) (s := Rows.unifiedCanonicalSpec) (ds := [d0]) (gs := []) laid_out u_fine (by rw [params]; decide) (by rw [params]; kernel_rfl) (by kernel_rfl) (by kernel_rfl) Tryd.underlying4 ⟨rfl, rfl, rfl⟩ hval hW hJ hn ?_
  intro xs hx _ harg
  rw [params] at hx harg hsz
  match xs, hx with
  | [x0], _ =>
  obtain ⟨s, e0, s0⟩ := arg_s (harg 0 9 d0 x0 rfl rfl rfl) (weight_of hsz (i := 0) rfl rfl)
  rw [e0]
  exact canon_law_ok s (by omega)

def wargs : Array Value := #[.string ⟨#[]⟩]

theorem laid_met (os : Os) : laidMet Tryd.prog Rows.unifiedCanonicalRow.laid ((laidWorld5 os).forCall (fun _ _ => 0) ⟨#[], wargs, []⟩).memory := five_met os wargs
theorem reads (os : Os) {H : Type} (enc : TypeId × Value → H) : ∃ places, DataW.whole enc Tryd.prog ((laidWorld5 os).forCall (fun _ _ => 0) ⟨#[], wargs, []⟩).memory Tryd.f11.params.toList Rows.unifiedCanonicalSpec.vars false wargs.toList 8 = some ([.lit (.string [])], [], places) :=
  ⟨[], by kernel_rfl⟩

set_option maxRecDepth 100000 in
theorem lifted (os : Os) (started : os.Started) (H : Type) (enc : TypeId × Value → H) (F : Stop.Interp) :
    ReturnsInHanded {} Tryd.checked os 11 .any ((OpenSpec.ofChange Rows.unifiedCanonicalSpec).preRow enc Tryd.prog Tryd.f11 Rows.unifiedCanonicalRow.domain false Rows.unifiedCanonicalRow.laid) (((OpenSpec.ofChange Rows.unifiedCanonicalSpec).at F).post enc Tryd.prog Tryd.f11 false true false false) := by
  obtain ⟨places, hx⟩ := reads os enc
  refine returnsInHanded_of_row (C := Tryd.checked) (s := OpenSpec.ofChange Rows.unifiedCanonicalSpec) own started (by kernel_rfl) Tryd.func11
    (witness_row_atRef (enc := enc) (C := Tryd.checked) false (laidWorld5 os) wargs rfl (by kernel_rfl) (by kernel_rfl) (by kernel_rfl)
      (OpenSpec.preRow_of_cond 8 hx (by kernel_rfl) (fun k hk => by cases hk) (by kernel_rfl) (laid_met os))) ?_
  intro W base args ds gs before hval hW _ _ hsz hL hS _
  exact contract H enc W base args ds gs before hval hW hsz hL hS

theorem said : Rows.UnifiedCanonicalSaid :=
  OpenClaim.holds_of_cond 11 Tryd.f11 rfl rfl rfl rfl rfl rfl rfl ⟨rfl, rfl, rfl, rfl, rfl⟩ rfl rfl rfl rfl rfl (by kernel_rfl) Tryd.func11 (by kernel_rfl)
    (of_decide_eq_true (by kernel_rfl)) (by unfold Func.isWrapper; first | (rw [if_pos (by decide +kernel)]; kernel_rfl) | (rw [if_neg (by decide +kernel)]; exact ⟨rfl, rfl⟩))
    (fun os started H enc _ F => by rw [OpenClaim.pre_eq_preRow]; exact lifted os started H enc F)

theorem plain (f : FuncId) (fn : Func) (hf : Tryd.pinned.checked.prog.funcNamed "quilt/quiltlaw10.UnifiedCanonical" = some f) (hfn : Tryd.pinned.checked.prog.funcs[f]? = some fn) :
    true = Tryd.pinned.checked.prog.looks [] ∧ ∀ (j : Nat) t, fn.params[j]? = some t → Tryd.pinned.checked.prog.wantsStandIn t = false := by
  obtain rfl : f = 11 := Option.some.inj ((show Tryd.prog.funcNamed "quilt/quiltlaw10.UnifiedCanonical" = some 11 by kernel_rfl).symm.trans hf) |>.symm
  obtain rfl : fn = Tryd.f11 := (Option.some.inj (Tryd.func11.symm.trans hfn)).symm
  refine ⟨by kernel_rfl, fun j t ht => ?_⟩
  rw [params] at ht
  exact no_stand t (of_mem_params (by decide) ht)

/-- The card. -/
theorem card : Rows.UnifiedCanonicalCardSaid :=
  Claim7.holds_tied_plain_at .later [] _ _ _ _ said (fun _ h => by cases h) (by kernel_rfl) (fun _ h => by cases h) unifiedCanonical_row_tie rfl ⟨rfl, rfl⟩ (by kernel_rfl) rfl plain (by kernel_rfl)

end Go.Proofs.YtbnnmamkplbdkaaDoor.unifiedCanonical
