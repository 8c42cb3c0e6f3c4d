/-
  NARROWER THAN 'FOR EVERY INPUT', by the rows' own cells (each row's printed sentence says how): UnifiedBlocks: laid · UnifiedApply: laid · UnifiedApplies: laid · UnifiedPlaces: laid · UnifiedMoved: laid · UnifiedTexts: laid · UnifiedHunks: laid · UnifiedRoundTrip: laid · UnifiedCanonical: laid.
  DERIVED. THE GIVEN ROWS OF THIS SEAT. 9 by the template 'for every input the law returns true; each argument reads behind the call as it read before'; 0 by the template 'total and deterministic' (their statements: YtbnnmamkplbdkaaDoorTotals.lean).
  GIVEN WITH THE SEED: the statements are not yours to turn. If you find one false, say at which input.
  Laid BY PROGRAM, IN A SANDBOX (cutbox-rows.mjs): the forced cells as the released guide's own fill.sh prints them over the translation abb0cd62ab1602fa… (all of the seat's roots in one cut). By AI agents, Wed Nov 11 2026. No macro, syntax, notation, axiom, sorry.
-/
import Derived.Test.YtbnnmamkplbdkaaDoorChecked
import GoSem.Claim
import GoSem.ClaimJoined
import GoSem.ClaimMapViews
import Derived.JoinedTies
import Derived.KernelRfl
namespace Go.Proofs.YtbnnmamkplbdkaaDoor
/- THE CELL 'sum', in the pinned program and in every row, IS THE sha256 OF THE DUMP (.gsa) THAT YtbnnmamkplbdkaaDoorProg.lean LOADS. Nothing in Lean hashes anything: it is a label: what it is worth is what the hold of that sum in a sandbox is worth. -/
noncomputable def Tryd.pinned : Pinned := { name := "ytbnnmamkplbdkaadoor", sum := "abb0cd62ab1602fa7ac285ba1b43964df05f52a2bcb9b372b7d5b5c6e0492bd5", checked := Tryd.checked }
namespace Rows
def none {H : Type} : Left H := { results := [], args := [] }

/- WHAT THE LISTED PACKAGE-LEVEL VARIABLES READ AS WHEN THE CALL BEGINS. Each datum BY PROGRAM (the guide's laid-datum.mjs) off the statement by which the dump's own 'gosem.cut.vars' lays the variable. In a bare row this is a premise. The card (YtbnnmamkplbdkaaDoorCards.lean) ties it to the program's text. -/
def laid_math_bits_deBruijn32tab {H : Type} : DataW H := .agg [.lit (.int .u8 0), .lit (.int .u8 1), .lit (.int .u8 28), .lit (.int .u8 2), .lit (.int .u8 29), .lit (.int .u8 14), .lit (.int .u8 24), .lit (.int .u8 3), .lit (.int .u8 30), .lit (.int .u8 22), .lit (.int .u8 20), .lit (.int .u8 15), .lit (.int .u8 25), .lit (.int .u8 17), .lit (.int .u8 4), .lit (.int .u8 8), .lit (.int .u8 31), .lit (.int .u8 27), .lit (.int .u8 13), .lit (.int .u8 23), .lit (.int .u8 21), .lit (.int .u8 19), .lit (.int .u8 16), .lit (.int .u8 7), .lit (.int .u8 26), .lit (.int .u8 12), .lit (.int .u8 18), .lit (.int .u8 6), .lit (.int .u8 11), .lit (.int .u8 5), .lit (.int .u8 10), .lit (.int .u8 9)]
def laid_math_bits_deBruijn64tab {H : Type} : DataW H := .agg [.lit (.int .u8 0), .lit (.int .u8 1), .lit (.int .u8 56), .lit (.int .u8 2), .lit (.int .u8 57), .lit (.int .u8 49), .lit (.int .u8 28), .lit (.int .u8 3), .lit (.int .u8 61), .lit (.int .u8 58), .lit (.int .u8 42), .lit (.int .u8 50), .lit (.int .u8 38), .lit (.int .u8 29), .lit (.int .u8 17), .lit (.int .u8 4), .lit (.int .u8 62), .lit (.int .u8 47), .lit (.int .u8 59), .lit (.int .u8 36), .lit (.int .u8 45), .lit (.int .u8 43), .lit (.int .u8 51), .lit (.int .u8 22), .lit (.int .u8 53), .lit (.int .u8 39), .lit (.int .u8 33), .lit (.int .u8 30), .lit (.int .u8 24), .lit (.int .u8 18), .lit (.int .u8 12), .lit (.int .u8 5), .lit (.int .u8 63), .lit (.int .u8 55), .lit (.int .u8 48), .lit (.int .u8 27), .lit (.int .u8 60), .lit (.int .u8 41), .lit (.int .u8 37), .lit (.int .u8 16), .lit (.int .u8 46), .lit (.int .u8 35), .lit (.int .u8 44), .lit (.int .u8 21), .lit (.int .u8 52), .lit (.int .u8 32), .lit (.int .u8 23), .lit (.int .u8 11), .lit (.int .u8 54), .lit (.int .u8 26), .lit (.int .u8 40), .lit (.int .u8 15), .lit (.int .u8 34), .lit (.int .u8 20), .lit (.int .u8 31), .lit (.int .u8 10), .lit (.int .u8 25), .lit (.int .u8 14), .lit (.int .u8 19), .lit (.int .u8 9), .lit (.int .u8 13), .lit (.int .u8 8), .lit (.int .u8 7), .lit (.int .u8 6)]
def laid_internal_strconv_uint64pow10 {H : Type} : DataW H := .agg [.lit (.int .u64 1), .lit (.int .u64 10), .lit (.int .u64 100), .lit (.int .u64 1000), .lit (.int .u64 10000), .lit (.int .u64 100000), .lit (.int .u64 1000000), .lit (.int .u64 10000000), .lit (.int .u64 100000000), .lit (.int .u64 1000000000), .lit (.int .u64 10000000000), .lit (.int .u64 100000000000), .lit (.int .u64 1000000000000), .lit (.int .u64 10000000000000), .lit (.int .u64 100000000000000), .lit (.int .u64 1000000000000000), .lit (.int .u64 10000000000000000), .lit (.int .u64 100000000000000000), .lit (.int .u64 1000000000000000000), .lit (.int .u64 10000000000000000000)]
def laid_strconv_ErrRange {H : Type} : DataW H := .iface "*errors.errorString" (.ptr (.agg [.lit (.string [118, 97, 108, 117, 101, 32, 111, 117, 116, 32, 111, 102, 32, 114, 97, 110, 103, 101])]))
def laid_strconv_ErrSyntax {H : Type} : DataW H := .iface "*errors.errorString" (.ptr (.agg [.lit (.string [105, 110, 118, 97, 108, 105, 100, 32, 115, 121, 110, 116, 97, 120])]))

/-- 'quiltlaw10.UnifiedBlocks': WHATEVER THE INPUT: true; the input reads as it did. -/
def unifiedBlocksSpec : ChangeSpec := { name := "unifiedBlocks", fn := fun _ => fun
  | [d1, d2, d3] => { results := [.lit (.bool true)], args := [d1, d2, d3] }
  | _ => none }
def unifiedBlocksRow : OpenClaim := { program := "ytbnnmamkplbdkaadoor", sum := "abb0cd62ab1602fa7ac285ba1b43964df05f52a2bcb9b372b7d5b5c6e0492bd5", func := "quilt/quiltlaw10.UnifiedBlocks", spec := "unifiedBlocks", inPlace := ["internal/abi.NoEscape", "internal/bytealg.IndexByteString", "internal/bytealg.IndexString"], unfollowed := true, recurses := true, named := ["internal/strconv.uint64pow10", "math/bits.deBruijn32tab", "math/bits.deBruijn64tab", "internal/bytealg.MaxLen"], apart := false, laid := [("math/bits.deBruijn32tab", laid_math_bits_deBruijn32tab), ("math/bits.deBruijn64tab", laid_math_bits_deBruijn64tab), ("internal/strconv.uint64pow10", laid_internal_strconv_uint64pow10)] }
def UnifiedBlocksSaid : Prop := unifiedBlocksRow.holds Tryd.pinned (OpenSpec.ofChange unifiedBlocksSpec)

/-- ITS FALSE NEIGHBOUR: 'it returns false'. Refute it at one input. -/
def unifiedBlocksWrong : ChangeSpec := { name := "unifiedBlocks", fn := fun _ => fun
  | [d1, d2, d3] => { results := [.lit (.bool false)], args := [d1, d2, d3] }
  | _ => none }
def UnifiedBlocksWrongFalsely : Prop := unifiedBlocksRow.holds Tryd.pinned (OpenSpec.ofChange unifiedBlocksWrong)

/-- 'quiltlaw10.UnifiedApply': WHATEVER THE INPUT: true; the input reads as it did. -/
def unifiedApplySpec : ChangeSpec := { name := "unifiedApply", fn := fun _ => fun
  | [d1, d2, d3] => { results := [.lit (.bool true)], args := [d1, d2, d3] }
  | _ => none }
def unifiedApplyRow : OpenClaim := { program := "ytbnnmamkplbdkaadoor", sum := "abb0cd62ab1602fa7ac285ba1b43964df05f52a2bcb9b372b7d5b5c6e0492bd5", func := "quilt/quiltlaw10.UnifiedApply", spec := "unifiedApply", inPlace := ["internal/abi.NoEscape", "internal/bytealg.IndexByteString", "internal/bytealg.IndexString"], unfollowed := true, recurses := true, named := ["internal/strconv.uint64pow10", "math/bits.deBruijn32tab", "math/bits.deBruijn64tab", "internal/bytealg.MaxLen"], apart := false, laid := [("math/bits.deBruijn32tab", laid_math_bits_deBruijn32tab), ("math/bits.deBruijn64tab", laid_math_bits_deBruijn64tab), ("internal/strconv.uint64pow10", laid_internal_strconv_uint64pow10)] }
def UnifiedApplySaid : Prop := unifiedApplyRow.holds Tryd.pinned (OpenSpec.ofChange unifiedApplySpec)

/-- ITS FALSE NEIGHBOUR: 'it returns false'. Refute it at one input. -/
def unifiedApplyWrong : ChangeSpec := { name := "unifiedApply", fn := fun _ => fun
  | [d1, d2, d3] => { results := [.lit (.bool false)], args := [d1, d2, d3] }
  | _ => none }
def UnifiedApplyWrongFalsely : Prop := unifiedApplyRow.holds Tryd.pinned (OpenSpec.ofChange unifiedApplyWrong)

/-- 'quiltlaw10.UnifiedApplies': WHATEVER THE INPUT: true; the input reads as it did. -/
def unifiedAppliesSpec : ChangeSpec := { name := "unifiedApplies", fn := fun _ => fun
  | [d1, d2, d3, d4] => { results := [.lit (.bool true)], args := [d1, d2, d3, d4] }
  | _ => none }
def unifiedAppliesRow : OpenClaim := { program := "ytbnnmamkplbdkaadoor", sum := "abb0cd62ab1602fa7ac285ba1b43964df05f52a2bcb9b372b7d5b5c6e0492bd5", func := "quilt/quiltlaw10.UnifiedApplies", spec := "unifiedApplies", inPlace := ["internal/abi.NoEscape", "internal/bytealg.IndexByteString", "internal/bytealg.IndexString"], unfollowed := true, recurses := true, named := ["internal/strconv.uint64pow10", "math/bits.deBruijn32tab", "math/bits.deBruijn64tab", "internal/bytealg.MaxLen"], apart := false, laid := [("math/bits.deBruijn32tab", laid_math_bits_deBruijn32tab), ("math/bits.deBruijn64tab", laid_math_bits_deBruijn64tab), ("internal/strconv.uint64pow10", laid_internal_strconv_uint64pow10)] }
def UnifiedAppliesSaid : Prop := unifiedAppliesRow.holds Tryd.pinned (OpenSpec.ofChange unifiedAppliesSpec)

/-- ITS FALSE NEIGHBOUR: 'it returns false'. Refute it at one input. -/
def unifiedAppliesWrong : ChangeSpec := { name := "unifiedApplies", fn := fun _ => fun
  | [d1, d2, d3, d4] => { results := [.lit (.bool false)], args := [d1, d2, d3, d4] }
  | _ => none }
def UnifiedAppliesWrongFalsely : Prop := unifiedAppliesRow.holds Tryd.pinned (OpenSpec.ofChange unifiedAppliesWrong)

/-- 'quiltlaw10.UnifiedPlaces': WHATEVER THE INPUT: true; the input reads as it did. -/
def unifiedPlacesSpec : ChangeSpec := { name := "unifiedPlaces", fn := fun _ => fun
  | [d1, d2, d3] => { results := [.lit (.bool true)], args := [d1, d2, d3] }
  | _ => none }
def unifiedPlacesRow : OpenClaim := { program := "ytbnnmamkplbdkaadoor", sum := "abb0cd62ab1602fa7ac285ba1b43964df05f52a2bcb9b372b7d5b5c6e0492bd5", func := "quilt/quiltlaw10.UnifiedPlaces", spec := "unifiedPlaces", inPlace := ["internal/abi.NoEscape", "internal/bytealg.IndexByteString", "internal/bytealg.IndexString"], unfollowed := true, recurses := true, named := ["internal/strconv.uint64pow10", "math/bits.deBruijn32tab", "math/bits.deBruijn64tab", "internal/bytealg.MaxLen"], apart := false, laid := [("math/bits.deBruijn32tab", laid_math_bits_deBruijn32tab), ("math/bits.deBruijn64tab", laid_math_bits_deBruijn64tab), ("internal/strconv.uint64pow10", laid_internal_strconv_uint64pow10)] }
def UnifiedPlacesSaid : Prop := unifiedPlacesRow.holds Tryd.pinned (OpenSpec.ofChange unifiedPlacesSpec)

/-- ITS FALSE NEIGHBOUR: 'it returns false'. Refute it at one input. -/
def unifiedPlacesWrong : ChangeSpec := { name := "unifiedPlaces", fn := fun _ => fun
  | [d1, d2, d3] => { results := [.lit (.bool false)], args := [d1, d2, d3] }
  | _ => none }
def UnifiedPlacesWrongFalsely : Prop := unifiedPlacesRow.holds Tryd.pinned (OpenSpec.ofChange unifiedPlacesWrong)

/-- 'quiltlaw10.UnifiedMoved': WHATEVER THE INPUT: true; the input reads as it did. -/
def unifiedMovedSpec : ChangeSpec := { name := "unifiedMoved", fn := fun _ => fun
  | [d1, d2, d3, d4] => { results := [.lit (.bool true)], args := [d1, d2, d3, d4] }
  | _ => none }
def unifiedMovedRow : OpenClaim := { program := "ytbnnmamkplbdkaadoor", sum := "abb0cd62ab1602fa7ac285ba1b43964df05f52a2bcb9b372b7d5b5c6e0492bd5", func := "quilt/quiltlaw10.UnifiedMoved", spec := "unifiedMoved", inPlace := ["internal/abi.NoEscape", "internal/bytealg.IndexByteString", "internal/bytealg.IndexString"], unfollowed := true, recurses := true, named := ["internal/strconv.uint64pow10", "math/bits.deBruijn32tab", "math/bits.deBruijn64tab", "internal/bytealg.MaxLen"], apart := false, laid := [("math/bits.deBruijn32tab", laid_math_bits_deBruijn32tab), ("math/bits.deBruijn64tab", laid_math_bits_deBruijn64tab), ("internal/strconv.uint64pow10", laid_internal_strconv_uint64pow10)] }
def UnifiedMovedSaid : Prop := unifiedMovedRow.holds Tryd.pinned (OpenSpec.ofChange unifiedMovedSpec)

/-- ITS FALSE NEIGHBOUR: 'it returns false'. Refute it at one input. -/
def unifiedMovedWrong : ChangeSpec := { name := "unifiedMoved", fn := fun _ => fun
  | [d1, d2, d3, d4] => { results := [.lit (.bool false)], args := [d1, d2, d3, d4] }
  | _ => none }
def UnifiedMovedWrongFalsely : Prop := unifiedMovedRow.holds Tryd.pinned (OpenSpec.ofChange unifiedMovedWrong)

/-- 'quiltlaw10.UnifiedTexts': WHATEVER THE INPUT: true; the input reads as it did. -/
def unifiedTextsSpec : ChangeSpec := { name := "unifiedTexts", fn := fun _ => fun
  | [d] => { results := [.lit (.bool true)], args := [d] }
  | _ => none }
def unifiedTextsRow : OpenClaim := { program := "ytbnnmamkplbdkaadoor", sum := "abb0cd62ab1602fa7ac285ba1b43964df05f52a2bcb9b372b7d5b5c6e0492bd5", func := "quilt/quiltlaw10.UnifiedTexts", spec := "unifiedTexts", inPlace := ["internal/abi.NoEscape", "internal/bytealg.IndexByteString", "internal/bytealg.IndexString"], unfollowed := true, recurses := true, named := ["internal/strconv.uint64pow10", "math/bits.deBruijn32tab", "math/bits.deBruijn64tab", "internal/bytealg.MaxLen"], apart := false, laid := [("math/bits.deBruijn32tab", laid_math_bits_deBruijn32tab), ("math/bits.deBruijn64tab", laid_math_bits_deBruijn64tab), ("internal/strconv.uint64pow10", laid_internal_strconv_uint64pow10)] }
def UnifiedTextsSaid : Prop := unifiedTextsRow.holds Tryd.pinned (OpenSpec.ofChange unifiedTextsSpec)

/-- ITS FALSE NEIGHBOUR: 'it returns false'. Refute it at one input. -/
def unifiedTextsWrong : ChangeSpec := { name := "unifiedTexts", fn := fun _ => fun
  | [d] => { results := [.lit (.bool false)], args := [d] }
  | _ => none }
def UnifiedTextsWrongFalsely : Prop := unifiedTextsRow.holds Tryd.pinned (OpenSpec.ofChange unifiedTextsWrong)

/-- 'quiltlaw10.UnifiedHunks': WHATEVER THE INPUT: true; the input reads as it did. -/
def unifiedHunksSpec : ChangeSpec := { name := "unifiedHunks", fn := fun _ => fun
  | [d1, d2, d3] => { results := [.lit (.bool true)], args := [d1, d2, d3] }
  | _ => none }
def unifiedHunksRow : OpenClaim := { program := "ytbnnmamkplbdkaadoor", sum := "abb0cd62ab1602fa7ac285ba1b43964df05f52a2bcb9b372b7d5b5c6e0492bd5", func := "quilt/quiltlaw10.UnifiedHunks", spec := "unifiedHunks", inPlace := ["internal/abi.NoEscape", "internal/bytealg.IndexByteString", "internal/bytealg.IndexString"], unfollowed := true, recurses := true, named := ["internal/strconv.uint64pow10", "math/bits.deBruijn32tab", "math/bits.deBruijn64tab", "internal/bytealg.MaxLen"], apart := false, laid := [("math/bits.deBruijn32tab", laid_math_bits_deBruijn32tab), ("math/bits.deBruijn64tab", laid_math_bits_deBruijn64tab), ("internal/strconv.uint64pow10", laid_internal_strconv_uint64pow10)] }
def UnifiedHunksSaid : Prop := unifiedHunksRow.holds Tryd.pinned (OpenSpec.ofChange unifiedHunksSpec)

/-- ITS FALSE NEIGHBOUR: 'it returns false'. Refute it at one input. -/
def unifiedHunksWrong : ChangeSpec := { name := "unifiedHunks", fn := fun _ => fun
  | [d1, d2, d3] => { results := [.lit (.bool false)], args := [d1, d2, d3] }
  | _ => none }
def UnifiedHunksWrongFalsely : Prop := unifiedHunksRow.holds Tryd.pinned (OpenSpec.ofChange unifiedHunksWrong)

/-- 'quiltlaw10.UnifiedRoundTrip': WHATEVER THE INPUT: true; the input reads as it did. -/
def unifiedRoundTripSpec : ChangeSpec := { name := "unifiedRoundTrip", fn := fun _ => fun
  | [d] => { results := [.lit (.bool true)], args := [d] }
  | _ => none }
def unifiedRoundTripRow : OpenClaim := { program := "ytbnnmamkplbdkaadoor", sum := "abb0cd62ab1602fa7ac285ba1b43964df05f52a2bcb9b372b7d5b5c6e0492bd5", func := "quilt/quiltlaw10.UnifiedRoundTrip", spec := "unifiedRoundTrip", inPlace := ["internal/abi.NoEscape", "internal/bytealg.IndexByteString", "internal/bytealg.IndexString"], unfollowed := true, recurses := true, named := ["internal/strconv.uint64pow10", "math/bits.deBruijn32tab", "math/bits.deBruijn64tab", "internal/bytealg.MaxLen", "strconv.ErrSyntax", "strconv.ErrRange"], apart := false, laid := [("math/bits.deBruijn32tab", laid_math_bits_deBruijn32tab), ("math/bits.deBruijn64tab", laid_math_bits_deBruijn64tab), ("internal/strconv.uint64pow10", laid_internal_strconv_uint64pow10), ("strconv.ErrRange", laid_strconv_ErrRange), ("strconv.ErrSyntax", laid_strconv_ErrSyntax)] }
def UnifiedRoundTripSaid : Prop := unifiedRoundTripRow.holds Tryd.pinned (OpenSpec.ofChange unifiedRoundTripSpec)

/-- ITS FALSE NEIGHBOUR: 'it returns false'. Refute it at one input. -/
def unifiedRoundTripWrong : ChangeSpec := { name := "unifiedRoundTrip", fn := fun _ => fun
  | [d] => { results := [.lit (.bool false)], args := [d] }
  | _ => none }
def UnifiedRoundTripWrongFalsely : Prop := unifiedRoundTripRow.holds Tryd.pinned (OpenSpec.ofChange unifiedRoundTripWrong)

/-- 'quiltlaw10.UnifiedCanonical': WHATEVER THE INPUT: true; the input reads as it did. -/
def unifiedCanonicalSpec : ChangeSpec := { name := "unifiedCanonical", fn := fun _ => fun
  | [d] => { results := [.lit (.bool true)], args := [d] }
  | _ => none }
def unifiedCanonicalRow : OpenClaim := { program := "ytbnnmamkplbdkaadoor", sum := "abb0cd62ab1602fa7ac285ba1b43964df05f52a2bcb9b372b7d5b5c6e0492bd5", func := "quilt/quiltlaw10.UnifiedCanonical", spec := "unifiedCanonical", inPlace := ["internal/abi.NoEscape", "internal/bytealg.IndexByteString", "internal/bytealg.IndexString"], unfollowed := true, recurses := true, named := ["internal/strconv.uint64pow10", "math/bits.deBruijn32tab", "math/bits.deBruijn64tab", "internal/bytealg.MaxLen", "strconv.ErrSyntax", "strconv.ErrRange"], apart := false, laid := [("math/bits.deBruijn32tab", laid_math_bits_deBruijn32tab), ("math/bits.deBruijn64tab", laid_math_bits_deBruijn64tab), ("internal/strconv.uint64pow10", laid_internal_strconv_uint64pow10), ("strconv.ErrRange", laid_strconv_ErrRange), ("strconv.ErrSyntax", laid_strconv_ErrSyntax)] }
def UnifiedCanonicalSaid : Prop := unifiedCanonicalRow.holds Tryd.pinned (OpenSpec.ofChange unifiedCanonicalSpec)

/-- ITS FALSE NEIGHBOUR: 'it returns false'. Refute it at one input. -/
def unifiedCanonicalWrong : ChangeSpec := { name := "unifiedCanonical", fn := fun _ => fun
  | [d] => { results := [.lit (.bool false)], args := [d] }
  | _ => none }
def UnifiedCanonicalWrongFalsely : Prop := unifiedCanonicalRow.holds Tryd.pinned (OpenSpec.ofChange unifiedCanonicalWrong)

/- THE SECOND FORM. 'bulk': how many values and letters a reading holds, each counted each time it is reached (what is shared counts as often as it is met; a slice's spare places count too). A statement '..UptoSaid' is the law's where the arguments, and the package variables that the reading takes, are together of bulk at most 1048576: NARROWER than '..Said'. Prove '..Said' where nothing that the law and all that it calls make is longer than what came in: it says more and counts as full. Else prove '..UptoSaid'. A law counts once. -/
mutual
def uptoBulk {H : Type} : DataW H → Nat
  | .lit (.string bytes) => bytes.length + 1
  | .lit _ => 1
  | .nil => 1
  | .ptr d => uptoBulk d + 1
  | .slice elems spare => uptoBulkAll elems + uptoBulkAll spare + 1
  | .agg parts => uptoBulkAll parts + 1
  | .iface _ d => uptoBulk d + 1
  | .map entries => uptoBulkEntries entries + 1
  | .held _ => 1
def uptoBulkAll {H : Type} : List (DataW H) → Nat
  | [] => 0
  | d :: r => uptoBulk d + uptoBulkAll r
def uptoBulkEntries {H : Type} : List (Lit × DataW H) → Nat
  | [] => 0
  | x :: r => uptoBulkEntry x + uptoBulkEntries r
def uptoBulkEntry {H : Type} : Lit × DataW H → Nat
  | (.string bytes, d) => bytes.length + uptoBulk d + 1
  | (_, d) => uptoBulk d + 1
 end
def uptoSmall : (H : Type) → List (DataW H) → Bool := fun _ ds => decide (uptoBulkAll ds ≤ 1048576)
def OpenSpec.upto (s : _root_.Go.ChangeSpec) : _root_.Go.OpenSpec := { _root_.Go.OpenSpec.ofChange s with cond := some uptoSmall }

/-- 'quiltlaw10.UnifiedBlocks', WHERE WHAT IT READS IS OF BULK AT MOST 1048576: true; the input reads as it did. -/
def unifiedBlocksUptoRow : OpenClaim := { program := "ytbnnmamkplbdkaadoor", sum := "abb0cd62ab1602fa7ac285ba1b43964df05f52a2bcb9b372b7d5b5c6e0492bd5", func := "quilt/quiltlaw10.UnifiedBlocks", spec := "unifiedBlocks", inPlace := ["internal/abi.NoEscape", "internal/bytealg.IndexByteString", "internal/bytealg.IndexString"], unfollowed := true, recurses := true, named := ["internal/strconv.uint64pow10", "math/bits.deBruijn32tab", "math/bits.deBruijn64tab", "internal/bytealg.MaxLen"], apart := false, laid := [("math/bits.deBruijn32tab", laid_math_bits_deBruijn32tab), ("math/bits.deBruijn64tab", laid_math_bits_deBruijn64tab), ("internal/strconv.uint64pow10", laid_internal_strconv_uint64pow10)], narrowed := true }
def UnifiedBlocksUptoSaid : Prop := unifiedBlocksUptoRow.holds Tryd.pinned (OpenSpec.upto unifiedBlocksSpec)

/-- 'quiltlaw10.UnifiedApply', WHERE WHAT IT READS IS OF BULK AT MOST 1048576: true; the input reads as it did. -/
def unifiedApplyUptoRow : OpenClaim := { program := "ytbnnmamkplbdkaadoor", sum := "abb0cd62ab1602fa7ac285ba1b43964df05f52a2bcb9b372b7d5b5c6e0492bd5", func := "quilt/quiltlaw10.UnifiedApply", spec := "unifiedApply", inPlace := ["internal/abi.NoEscape", "internal/bytealg.IndexByteString", "internal/bytealg.IndexString"], unfollowed := true, recurses := true, named := ["internal/strconv.uint64pow10", "math/bits.deBruijn32tab", "math/bits.deBruijn64tab", "internal/bytealg.MaxLen"], apart := false, laid := [("math/bits.deBruijn32tab", laid_math_bits_deBruijn32tab), ("math/bits.deBruijn64tab", laid_math_bits_deBruijn64tab), ("internal/strconv.uint64pow10", laid_internal_strconv_uint64pow10)], narrowed := true }
def UnifiedApplyUptoSaid : Prop := unifiedApplyUptoRow.holds Tryd.pinned (OpenSpec.upto unifiedApplySpec)

/-- 'quiltlaw10.UnifiedApplies', WHERE WHAT IT READS IS OF BULK AT MOST 1048576: true; the input reads as it did. -/
def unifiedAppliesUptoRow : OpenClaim := { program := "ytbnnmamkplbdkaadoor", sum := "abb0cd62ab1602fa7ac285ba1b43964df05f52a2bcb9b372b7d5b5c6e0492bd5", func := "quilt/quiltlaw10.UnifiedApplies", spec := "unifiedApplies", inPlace := ["internal/abi.NoEscape", "internal/bytealg.IndexByteString", "internal/bytealg.IndexString"], unfollowed := true, recurses := true, named := ["internal/strconv.uint64pow10", "math/bits.deBruijn32tab", "math/bits.deBruijn64tab", "internal/bytealg.MaxLen"], apart := false, laid := [("math/bits.deBruijn32tab", laid_math_bits_deBruijn32tab), ("math/bits.deBruijn64tab", laid_math_bits_deBruijn64tab), ("internal/strconv.uint64pow10", laid_internal_strconv_uint64pow10)], narrowed := true }
def UnifiedAppliesUptoSaid : Prop := unifiedAppliesUptoRow.holds Tryd.pinned (OpenSpec.upto unifiedAppliesSpec)

/-- 'quiltlaw10.UnifiedPlaces', WHERE WHAT IT READS IS OF BULK AT MOST 1048576: true; the input reads as it did. -/
def unifiedPlacesUptoRow : OpenClaim := { program := "ytbnnmamkplbdkaadoor", sum := "abb0cd62ab1602fa7ac285ba1b43964df05f52a2bcb9b372b7d5b5c6e0492bd5", func := "quilt/quiltlaw10.UnifiedPlaces", spec := "unifiedPlaces", inPlace := ["internal/abi.NoEscape", "internal/bytealg.IndexByteString", "internal/bytealg.IndexString"], unfollowed := true, recurses := true, named := ["internal/strconv.uint64pow10", "math/bits.deBruijn32tab", "math/bits.deBruijn64tab", "internal/bytealg.MaxLen"], apart := false, laid := [("math/bits.deBruijn32tab", laid_math_bits_deBruijn32tab), ("math/bits.deBruijn64tab", laid_math_bits_deBruijn64tab), ("internal/strconv.uint64pow10", laid_internal_strconv_uint64pow10)], narrowed := true }
def UnifiedPlacesUptoSaid : Prop := unifiedPlacesUptoRow.holds Tryd.pinned (OpenSpec.upto unifiedPlacesSpec)

/-- 'quiltlaw10.UnifiedMoved', WHERE WHAT IT READS IS OF BULK AT MOST 1048576: true; the input reads as it did. -/
def unifiedMovedUptoRow : OpenClaim := { program := "ytbnnmamkplbdkaadoor", sum := "abb0cd62ab1602fa7ac285ba1b43964df05f52a2bcb9b372b7d5b5c6e0492bd5", func := "quilt/quiltlaw10.UnifiedMoved", spec := "unifiedMoved", inPlace := ["internal/abi.NoEscape", "internal/bytealg.IndexByteString", "internal/bytealg.IndexString"], unfollowed := true, recurses := true, named := ["internal/strconv.uint64pow10", "math/bits.deBruijn32tab", "math/bits.deBruijn64tab", "internal/bytealg.MaxLen"], apart := false, laid := [("math/bits.deBruijn32tab", laid_math_bits_deBruijn32tab), ("math/bits.deBruijn64tab", laid_math_bits_deBruijn64tab), ("internal/strconv.uint64pow10", laid_internal_strconv_uint64pow10)], narrowed := true }
def UnifiedMovedUptoSaid : Prop := unifiedMovedUptoRow.holds Tryd.pinned (OpenSpec.upto unifiedMovedSpec)

/-- 'quiltlaw10.UnifiedTexts', WHERE WHAT IT READS IS OF BULK AT MOST 1048576: true; the input reads as it did. -/
def unifiedTextsUptoRow : OpenClaim := { program := "ytbnnmamkplbdkaadoor", sum := "abb0cd62ab1602fa7ac285ba1b43964df05f52a2bcb9b372b7d5b5c6e0492bd5", func := "quilt/quiltlaw10.UnifiedTexts", spec := "unifiedTexts", inPlace := ["internal/abi.NoEscape", "internal/bytealg.IndexByteString", "internal/bytealg.IndexString"], unfollowed := true, recurses := true, named := ["internal/strconv.uint64pow10", "math/bits.deBruijn32tab", "math/bits.deBruijn64tab", "internal/bytealg.MaxLen"], apart := false, laid := [("math/bits.deBruijn32tab", laid_math_bits_deBruijn32tab), ("math/bits.deBruijn64tab", laid_math_bits_deBruijn64tab), ("internal/strconv.uint64pow10", laid_internal_strconv_uint64pow10)], narrowed := true }
def UnifiedTextsUptoSaid : Prop := unifiedTextsUptoRow.holds Tryd.pinned (OpenSpec.upto unifiedTextsSpec)

/-- 'quiltlaw10.UnifiedHunks', WHERE WHAT IT READS IS OF BULK AT MOST 1048576: true; the input reads as it did. -/
def unifiedHunksUptoRow : OpenClaim := { program := "ytbnnmamkplbdkaadoor", sum := "abb0cd62ab1602fa7ac285ba1b43964df05f52a2bcb9b372b7d5b5c6e0492bd5", func := "quilt/quiltlaw10.UnifiedHunks", spec := "unifiedHunks", inPlace := ["internal/abi.NoEscape", "internal/bytealg.IndexByteString", "internal/bytealg.IndexString"], unfollowed := true, recurses := true, named := ["internal/strconv.uint64pow10", "math/bits.deBruijn32tab", "math/bits.deBruijn64tab", "internal/bytealg.MaxLen"], apart := false, laid := [("math/bits.deBruijn32tab", laid_math_bits_deBruijn32tab), ("math/bits.deBruijn64tab", laid_math_bits_deBruijn64tab), ("internal/strconv.uint64pow10", laid_internal_strconv_uint64pow10)], narrowed := true }
def UnifiedHunksUptoSaid : Prop := unifiedHunksUptoRow.holds Tryd.pinned (OpenSpec.upto unifiedHunksSpec)

/-- 'quiltlaw10.UnifiedRoundTrip', WHERE WHAT IT READS IS OF BULK AT MOST 1048576: true; the input reads as it did. -/
def unifiedRoundTripUptoRow : OpenClaim := { program := "ytbnnmamkplbdkaadoor", sum := "abb0cd62ab1602fa7ac285ba1b43964df05f52a2bcb9b372b7d5b5c6e0492bd5", func := "quilt/quiltlaw10.UnifiedRoundTrip", spec := "unifiedRoundTrip", inPlace := ["internal/abi.NoEscape", "internal/bytealg.IndexByteString", "internal/bytealg.IndexString"], unfollowed := true, recurses := true, named := ["internal/strconv.uint64pow10", "math/bits.deBruijn32tab", "math/bits.deBruijn64tab", "internal/bytealg.MaxLen", "strconv.ErrSyntax", "strconv.ErrRange"], apart := false, laid := [("math/bits.deBruijn32tab", laid_math_bits_deBruijn32tab), ("math/bits.deBruijn64tab", laid_math_bits_deBruijn64tab), ("internal/strconv.uint64pow10", laid_internal_strconv_uint64pow10), ("strconv.ErrRange", laid_strconv_ErrRange), ("strconv.ErrSyntax", laid_strconv_ErrSyntax)], narrowed := true }
def UnifiedRoundTripUptoSaid : Prop := unifiedRoundTripUptoRow.holds Tryd.pinned (OpenSpec.upto unifiedRoundTripSpec)

/-- 'quiltlaw10.UnifiedCanonical', WHERE WHAT IT READS IS OF BULK AT MOST 1048576: true; the input reads as it did. -/
def unifiedCanonicalUptoRow : OpenClaim := { program := "ytbnnmamkplbdkaadoor", sum := "abb0cd62ab1602fa7ac285ba1b43964df05f52a2bcb9b372b7d5b5c6e0492bd5", func := "quilt/quiltlaw10.UnifiedCanonical", spec := "unifiedCanonical", inPlace := ["internal/abi.NoEscape", "internal/bytealg.IndexByteString", "internal/bytealg.IndexString"], unfollowed := true, recurses := true, named := ["internal/strconv.uint64pow10", "math/bits.deBruijn32tab", "math/bits.deBruijn64tab", "internal/bytealg.MaxLen", "strconv.ErrSyntax", "strconv.ErrRange"], apart := false, laid := [("math/bits.deBruijn32tab", laid_math_bits_deBruijn32tab), ("math/bits.deBruijn64tab", laid_math_bits_deBruijn64tab), ("internal/strconv.uint64pow10", laid_internal_strconv_uint64pow10), ("strconv.ErrRange", laid_strconv_ErrRange), ("strconv.ErrSyntax", laid_strconv_ErrSyntax)], narrowed := true }
def UnifiedCanonicalUptoSaid : Prop := unifiedCanonicalUptoRow.holds Tryd.pinned (OpenSpec.upto unifiedCanonicalSpec)

end Rows
end Go.Proofs.YtbnnmamkplbdkaaDoor
