/- The conditions of the rows on the language of queries, and a world for their witness. No condition. -/
import Derived.Test.YtpoefbbfhebakaaGreatDoorCards
import Derived.Test.YtpoefbbfhebakaaGreatDoorTie
import Derived.Test.YtpoefbbfhebakaaGreatDoorCD
import Derived.Test.YtpoefbbfhebakaaGreatDoorCN
import Derived.Test.YtpoefbbfhebakaaGreatDoorCE
import Derived.ProofKit
import Derived.OpenShut
import Derived.Deep.DeepHandedRow
import Derived.Stop.LaidErr
import Derived.Deep.DeepWitnessRowRef
import Derived.Shelf.Vars
set_option linter.unusedVariables false
set_option linter.unusedSimpArgs false
namespace Go.Proofs.YtpoefbbfhebakaaGreatDoor.door
open Go Qv Go.ChangeShapes Go.WideShapes Go.ChangeAt Go.RowKit
theorem own : ownKnob Tryz.prog.godebug = none := by kernel_rfl
theorem gType : (Tryz.prog.globals[4]?).map (·.type) = some 233 := by kernel_rfl
theorem gType0 : (Tryz.prog.globals[0]?).map (·.type) = some 94 := by kernel_rfl
theorem g0 : Tryz.prog.globalNamed "quilt/querylang.words" = some 0 := by kernel_rfl
theorem g8 : Tryz.prog.globalNamed "math/bits.deBruijn64tab" = some 8 := by kernel_rfl
def eight : List (String × DataW Unit) := [("math/bits.deBruijn32tab", Rows.laid_math_bits_deBruijn32tab), ("math/bits.deBruijn64tab", Rows.laid_math_bits_deBruijn64tab), ("internal/strconv.uint64pow10", Rows.laid_internal_strconv_uint64pow10), ("unicode/utf8.acceptRanges", Rows.laid_unicode_utf8_acceptRanges), ("strconv.ErrRange", Rows.laid_strconv_ErrRange), ("strconv.ErrSyntax", Rows.laid_strconv_ErrSyntax), ("quilt/querylang.words", Rows.laid_quilt_querylang_words), ("unicode/utf8.first", Rows.laid_unicode_utf8_first)]
theorem star : "*" ++ "errors.errorString" = "*errors.errorString" := by decide
theorem row280 (u : TypeId) (h : Tryz.prog.typeName? 3 u = some "*errors.errorString") : u = 280 :=
 typeName_ptr_named (nm := "errors.errorString") (by rw [star]; kernel_rfl) (by kernel_rfl) (by decide) u (by rw [star]; exact h)
theorem und280 : Tryz.prog.underlying 280 = some (.pointer 282) := by kernel_rfl
theorem cells_of_strs {P : Program} {w : World} {base : Nat} {sp : Nat → Bool} {held : Bool} {fuel : Nat} {t e : TypeId} {n : Nat} {cs : List Value} {ss : List (List UInt8)} {p : List MemPlace}
 (ht : P.underlying t = some (.array n e)) (he : P.underlying e = some .string) (hce : P.cellsOf e = 1) (hct : P.cellsOf t = n)
 (h : DataW.trod (fun _ => ()) P w base sp held fuel t cs = some (.agg (ss.map fun s => .lit (.string s)),p)) : cs = ss.map fun s => Value.string ⟨s.toArray⟩ := by
 cases fuel with
 | zero => simp [DataW.trod] at h
 | succ fuel =>
   simp only [DataW.trod,ht,hce,hct,Nat.mul_one] at h
   split at h
   ·rename_i hl
    obtain ⟨xs,hm,hx⟩ := Option.map_eq_some_iff.1 h
    have hxs : xs.map (·.1) = ss.map fun s => (DataW.lit (.string s) : DataW Unit) := by
     have := congrArg Prod.fst hx
     simpa using this
    have hxl : xs.length = n := by simpa using Lib.mapM_length hm
    have hzl : ss.length = n := by
     have := congrArg List.length hxs
     simp at this
     omega
    apply List.ext_getElem?
    intro i
    by_cases hi : i < n
    ·obtain ⟨b,hb,hf⟩ := Lib.mapM_at hm i i (by simp [hi])
     obtain ⟨z,hc,rfl,-⟩ := DataW.trod_string he hf
     have h1 : cs[i]? = some (.string z) := by
      have := congrArg (·[0]?) hc
      simpa [List.getElem?_take,List.getElem?_drop] using this
     have h2 : (xs.map (·.1))[i]? = some (DataW.lit (.string z.data.toList) : DataW Unit) := by simp [hb]
     rw [hxs] at h2
     simp only [List.getElem?_map,Option.map_eq_some_iff,DataW.lit.injEq,Lit.string.injEq] at h2
     obtain ⟨s',hs',e'⟩ := h2
     subst e'
     simp [h1,hs']
    ·rw [List.getElem?_eq_none (by omega),List.getElem?_eq_none (by simp; omega)]
   ·cases h
theorem words_laid : Rows.laid_quilt_querylang_words (H := Unit) = .agg (wordsB.map fun s => .lit (.string s)) := rfl
theorem listed {W : World} (h : laidMetH Tryz.prog eight W) (hS : W.ShapedOpen Tryz.prog) : (qryJ W ∧ GlobOK (fun b _ => b < W.heap.size) W) ∧ 9 ≤ W.heap.size := by
 have h' : laidMet Tryz.prog eight W := h
 obtain ⟨a1,s1,hv1,-⟩ := laid_sentinel (g := 6) h'.tail.tail.tail.tail (by kernel_rfl) (by kernel_rfl) Tryz.underlying162 row280 und280 Tryz.underlying282 rfl rfl Tryz.underlying9 (by kernel_rfl) (by kernel_rfl)
 obtain ⟨a2,s2,hv2,-⟩ := laid_sentinel (g := 5) h'.tail.tail.tail.tail.tail (by kernel_rfl) (by kernel_rfl) Tryz.underlying162 row280 und280 Tryz.underlying282 rfl rfl Tryz.underlying9 (by kernel_rfl) (by kernel_rfl)
 have hlt : 9 ≤ W.heap.size := laid_lt g8 h' (.tail _ (.head _))
 refine ⟨⟨⟨tab_mem glob_pow10 gType Tryz.underlying233 (by kernel_rfl) (by kernel_rfl) (by kernel_rfl) h' (.tail _ (.tail _ (.head _))),?_,⟨_,_,hv2⟩,⟨_,_,hv1⟩⟩,?_⟩,hlt⟩
 ·exact Go.Proofs.cell_of_shapedOpen_int (zero := #[.int .i64 0]) (t := 3) hS (of_decide_eq_true (by kernel_rfl)) (by kernel_rfl) rfl (by kernel_rfl) (by kernel_rfl) Tryz.underlying3
 ·intro g xs hg
  match g,hg with
  | 0,hg =>
    obtain rfl := Option.some.inj hg
    obtain ⟨ps,hl,-⟩ := h'
    obtain ⟨g', t', cs, fuel, p, hg', ht', hvar, hd⟩ := laid_mem hl (show ("quilt/querylang.words", Rows.laid_quilt_querylang_words) ∈ eight from .tail _ (.tail _ (.tail _ (.tail _ (.tail _ (.tail _ (.head _)))))))
    obtain rfl := Option.some.inj (g0.symm.trans hg')
    obtain rfl := Option.some.inj (gType0.symm.trans ht')
    rw [words_laid] at hd
    have hcs := cells_of_strs Tryz.underlying94 Tryz.underlying9 (by kernel_rfl) (by kernel_rfl) hd
    have hcell : ∀ j,W.cell? ⟨0,0 + j,none⟩ = cs[j]? := fun j => by
     rw [Nat.zero_add]
     exact World.var?_cell g0 hvar j
    refine .imp 0 0 _ (fun j => .string ⟨(wordB j).toArray⟩) (fun j y hy => ?_) (fun j y hy => ?_) (fun j y hy => by omega) (fun j y hy => ?_)
    ·match j,hy with
     | 0,hy | 1,hy | 2,hy | 3,hy | 4,hy | 5,hy | 6,hy | 7,hy | 8,hy | 9,hy | 10,hy | 11,hy | 12,hy | 13,hy => cases hy; rfl
     | j + 14,hy => cases hy
    ·rw [hcell,← Array.getElem?_toList,hcs]
     match j,hy with
     | 0,_ | 1,_ | 2,_ | 3,_ | 4,_ | 5,_ | 6,_ | 7,_ | 8,_ | 9,_ | 10,_ | 11,_ | 12,_ | 13,_ => rfl
     | j + 14,hy => cases hy
    ·match j,hy with
     | 0,hy | 1,hy | 2,hy | 3,hy | 4,hy | 5,hy | 6,hy | 7,hy | 8,hy | 9,hy | 10,hy | 11,hy | 12,hy | 13,hy => cases hy; exact .str _
     | j + 14,hy => cases hy
  | g + 1,hg => cases hg
def flat1 : DataW Unit → List Value
 | .lit (.int k n) => [Value.int k n]
 | .lit (.string s) => [Value.string ⟨s.toArray⟩]
 | _ => [undef]
def flat2 : DataW Unit → List Value
 | .agg l => l.flatMap flat1
 | d => flat1 d
def cellsOf2 : DataW Unit → Array Value
 | .agg l => (l.flatMap flat2).toArray
 | _ => #[]
def lay (c : Array Value) : Obj → Obj
 | .cells _ t frozen => .cells c t frozen
 | o => o
noncomputable def laidWorld (os : Os) : World :=
 let N := (World.settled Tryz.prog os).heap.size
 let w0 := World.holding Tryz.prog os ⟨#[.cells #[.string ⟨#[118,97,108,117,101,32,111,117,116,32,111,102,32,114,97,110,103,101]⟩] 282,.cells #[.string ⟨#[105,110,118,97,108,105,100,32,115,121,110,116,97,120]⟩] 282],#[],[]⟩
 { w0 with
   heap := ((((((((w0.heap.modify 0 (lay (cellsOf2 Rows.laid_quilt_querylang_words))).modify 1 (lay (cellsOf2 Rows.laid_unicode_utf8_first))).modify 2 (lay (cellsOf2 Rows.laid_unicode_utf8_acceptRanges))).modify 4 (lay (cellsOf2 Rows.laid_internal_strconv_uint64pow10))).modify 7 (lay (cellsOf2 Rows.laid_math_bits_deBruijn32tab))).modify 8 (lay (cellsOf2 Rows.laid_math_bits_deBruijn64tab))).modify 6 (lay #[.iface 280 (.pointer (some ⟨N,0,none⟩))])).modify 5 (lay #[.iface 280 (.pointer (some ⟨N + 1,0,none⟩))])) }
theorem eight_met (os : Os) (args : Array Value) : laidMet Tryz.prog eight ((laidWorld os).forCall (fun _ _ => 0) ⟨#[],args,[]⟩).memory :=
 laidMet_of_run' 8 (by kernel_rfl) (by kernel_rfl)
end Go.Proofs.YtpoefbbfhebakaaGreatDoor.door

