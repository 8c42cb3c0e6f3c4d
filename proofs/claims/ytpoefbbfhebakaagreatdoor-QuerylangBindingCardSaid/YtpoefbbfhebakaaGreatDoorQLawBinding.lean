/- The statement QuerylangBinding: and binds stronger than or, both to the left, and not, needs and users bind stronger than both, for every input of the row. Conditions: the row's own (what it lists is laid by the program's text). -/
import Derived.Test.YtpoefbbfhebakaaGreatDoorCl
import Derived.Test.YtpoefbbfhebakaaGreatDoorCk
set_option linter.unusedVariables false
set_option linter.unusedSimpArgs false
namespace Go.Proofs.YtpoefbbfhebakaaGreatDoor.querylangBinding
open Go Qv door Go.ChangeShapes Go.WideShapes Go.ChangeAt Go.RowKit
theorem params : Tryz.f13.params = #[43,5] := Tryz.params13
set_option maxRecDepth 100000 in
theorem contract (H : Type) (enc : TypeId × Value → H) (W : World) (base : Nat) (args : Array Value) (ds gs : List (DataW H)) (before : List MemPlace)
 (hval : ∀ (j : Nat) t v,Tryz.f13.params[j]? = some t → args[j]? = some v → Value.okWide Tryz.prog W .any base t v)
 (hW : DataW.Whole enc Tryz.prog Tryz.f13.params.toList Rows.querylangBindingSpec.vars false W args.toList ds gs before)
 (hsz : (DataW.weightsEach Tryz.prog (Tryz.f13.params.toList ++ (OpenSpec.ofChange Rows.querylangBindingSpec).bare.plain.varTypes Tryz.prog) (ds ++ gs)).all (· ≤ reachBytes) = true)
 (hL : laidMetH Tryz.prog eight W) (hS : W.ShapedOpen Tryz.prog) :
 Calls Tryz.prog 13 args W fun e W' => ∃ v,e = .returned v ∧ Rows.querylangBindingSpec.post enc Tryz.prog Tryz.f13 false true false false W args v W' := by
 obtain ⟨hJ,hn⟩ := listed hL hS
 have hg : gs = [] := whole_none hW
 have hlen : ds.length = 2 := (whole_len hW).trans (congrArg (fun a : Array TypeId => a.toList.length) params)
 subst hg
 match ds,hlen with
 | [d0,d1],_ =>
 refine law_close (Cx := C) (fid := 13) (ts := cTypes) (tb := 4) (s := Rows.querylangBindingSpec) (ds := [d0,d1]) (gs := []) laid_out c_fine (by rw [params]; decide) (by rw [params]; kernel_rfl) (by kernel_rfl) (by kernel_rfl) Tryz.underlying4 ⟨rfl,rfl,rfl⟩ hval hW hJ hn ?_
 intro xs hx _ harg
 rw [params] at hx harg hsz
 match xs,hx with
 | [x0,x1],_ =>
 obtain ⟨a,b,c,e0,s0⟩ := arg_a (harg 0 43 d0 x0 rfl rfl rfl) (weight_of hsz (i := 0) rfl rfl)
 obtain ⟨wd,e1,s1⟩ := arg_u8C (harg 1 5 d1 x1 rfl rfl rfl)
 rw [e0,e1]
 exact binding_law_ok a b c s0.1 s0.2.1 s0.2.2 wd s1
theorem clo : Tryz.prog.closure 13 = [13,30,50,59,31,35,62,115,116,151,170,171,198,222,152,153,172,199,223,244,259,260,200,224,245,225,226,108,150,169,194,195,218,217,219,196,197,220,221,242,243,246,227,117,155,174,109,201,105,228,107,154,173,22,48,49,79,131,162,184,203,230,247,121,158,231,248,232,249,202,229,182,181,261,269,185,204,205,233,206,234,235,207,132,38,66,65,67,69,120,68,71,123,160,122,159,179,180,70,32,60,106,148,149,168,193,215,240,161,183,258,216,241,167,191,211,192,212,236,250,251,252,253,254,262,263,264,265,266,256,213,237,255,257,267,268,214,239,238,29,39,19] := closure_of 13 _ leadsT_ok (by kernel_rfl)
theorem k_place : (Rows.querylangBindingRow.inPlace == Tryz.prog.inPlace 13) = true := by unfold Program.inPlace; rw [clo]; kernel_rfl
theorem k_unf : (Rows.querylangBindingRow.unfollowed == Tryz.prog.unfollowed 13) = true := by unfold Program.unfollowed; rw [clo]; kernel_rfl
theorem k_rec : (Rows.querylangBindingRow.recurses == Tryz.prog.recurses 13) = true := by
 have h : Tryz.prog.unfollowed 13 = true := by unfold Program.unfollowed; rw [clo]; kernel_rfl
 unfold Program.recurses
 rw [h]; rfl
theorem k_named : (Rows.querylangBindingRow.named == Tryz.prog.varsNamed 13) = true := by unfold Program.varsNamed; rw [clo]; kernel_rfl
theorem closed : joinedFacts Tryz.prog 13 Tryz.f13 (OpenSpec.ofChange Rows.querylangBindingSpec).bare Rows.querylangBindingRow = true := by
 unfold joinedFacts
 exact band (band (band (band (band (band (band (band (band (band (band (band (band (band (band (band (band (band (band (band (band (band (band (band (band (band (band (band (band (band (band (by kernel_rfl) laid_out) p_maps) (by kernel_rfl)) (by kernel_rfl)) (by kernel_rfl)) (by kernel_rfl)) (by kernel_rfl)) (by kernel_rfl)) k_place) k_unf) k_rec) k_named) (by kernel_rfl)) (by kernel_rfl)) (by kernel_rfl)) (by kernel_rfl)) (by kernel_rfl)) (by kernel_rfl)) (by kernel_rfl)) (by kernel_rfl)) (by kernel_rfl)) (by kernel_rfl)) (by kernel_rfl)) p_heard) p_enter) (by kernel_rfl)) (by kernel_rfl)) (by kernel_rfl)) (by kernel_rfl)) (by kernel_rfl)) (by kernel_rfl)
def wargs : Array Value := #[.agg #[.int .i64 0,.string ⟨#[]⟩,.int .i64 0,.slice none 0 0,.int .i64 0,.string ⟨#[]⟩,.int .i64 0,.slice none 0 0,.int .i64 0,.string ⟨#[]⟩,.int .i64 0,.slice none 0 0],.int .u8 0]
theorem laid_met (os : Os) : laidMet Tryz.prog Rows.querylangBindingRow.laid ((laidWorld os).forCall (fun _ _ => 0) ⟨#[],wargs,[]⟩).memory := eight_met os wargs
theorem reads (os : Os) {H : Type} (enc : TypeId × Value → H) : ∃ places,DataW.whole enc Tryz.prog ((laidWorld os).forCall (fun _ _ => 0) ⟨#[],wargs,[]⟩).memory Tryz.f13.params.toList Rows.querylangBindingSpec.vars false wargs.toList 8 = some ([.agg [.agg [.lit (.int .i64 0),.lit (.string []),.lit (.int .i64 0),.nil],.agg [.lit (.int .i64 0),.lit (.string []),.lit (.int .i64 0),.nil],.agg [.lit (.int .i64 0),.lit (.string []),.lit (.int .i64 0),.nil]],.lit (.int .u8 0)],[],places) :=
 ⟨[],by kernel_rfl⟩
set_option maxRecDepth 100000 in
theorem lifted (os : Os) (started : os.Started) (H : Type) (enc : TypeId × Value → H) (F : Stop.Interp) :
 ReturnsInHanded {} Tryz.checked os 13 .any ((OpenSpec.ofChange Rows.querylangBindingSpec).preRow enc Tryz.prog Tryz.f13 Rows.querylangBindingRow.domain false Rows.querylangBindingRow.laid) (((OpenSpec.ofChange Rows.querylangBindingSpec).at F).post enc Tryz.prog Tryz.f13 false true false false) := by
 obtain ⟨places,hx⟩ := reads os enc
 refine returnsInHanded_of_row (C := Tryz.checked) (s := OpenSpec.ofChange Rows.querylangBindingSpec) own started (by kernel_rfl) Tryz.func13
  (witness_row_at (enc := enc) (C := Tryz.checked) false (laidWorld os) wargs rfl (by kernel_rfl) (by kernel_rfl) (by kernel_rfl)
   (OpenSpec.preRow_of_cond 8 hx (by kernel_rfl) (fun k hk => by cases hk) (by kernel_rfl) (laid_met os))) ?_
 intro W base args ds gs before hval hW _ _ hsz hL hS _
 exact contract H enc W base args ds gs before hval hW hsz hL hS
theorem said : Rows.QuerylangBindingSaid :=
 OpenClaim.holds_of_cond 13 Tryz.f13 rfl rfl rfl rfl rfl rfl rfl ⟨rfl,rfl,rfl,rfl,rfl⟩ rfl rfl rfl rfl rfl (by kernel_rfl) Tryz.func13 closed
  (of_decide_eq_true (by kernel_rfl)) (by unfold Func.isWrapper; first | (rw [if_pos (by decide +kernel)]; kernel_rfl) | (rw [if_neg (by decide +kernel)]; exact ⟨rfl,rfl⟩))
  (fun os started H enc _ F => by rw [OpenClaim.pre_eq_preRow]; exact lifted os started H enc F)
theorem plain (f : FuncId) (fn : Func) (hf : Tryz.pinned.checked.prog.funcNamed "quilt/quiltlaw33.QuerylangBinding" = some f) (hfn : Tryz.pinned.checked.prog.funcs[f]? = some fn) :
 true = Tryz.pinned.checked.prog.looks [] ∧ ∀ (j : Nat) t,fn.params[j]? = some t → Tryz.pinned.checked.prog.wantsStandIn t = false := by
 obtain rfl : f = 13 := Option.some.inj ((show Tryz.prog.funcNamed "quilt/quiltlaw33.QuerylangBinding" = some 13 by kernel_rfl).symm.trans hf) |>.symm
 obtain rfl : fn = Tryz.f13 := (Option.some.inj (Tryz.func13.symm.trans hfn)).symm
 refine ⟨by kernel_rfl,fun j t ht => ?_⟩
 rw [params] at ht
 exact no_standC t (of_mem_paramsC (by decide) ht)
theorem card : Rows.QuerylangBindingCardSaid :=
 Claim7.holds_tied_plain_at .later [] _ _ _ _ said (fun _ h => by cases h) (by kernel_rfl) (fun _ h => by cases h) querylangBinding_row_tie rfl ⟨rfl,rfl⟩ (by kernel_rfl) rfl plain (by kernel_rfl)
end Go.Proofs.YtpoefbbfhebakaaGreatDoor.querylangBinding
