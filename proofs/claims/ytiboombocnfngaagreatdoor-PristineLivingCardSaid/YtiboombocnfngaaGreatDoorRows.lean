/-
  NARROWER THAN 'FOR EVERY INPUT', by the rows' own cells (each row's printed sentence says how): PristineOrder: laid · PristineApply: laid · PristineLiving: laid · PristineRemoved: laid · PristineAdded: laid · PristineUndone: laid · PristineSet: laid.
  DERIVED. THE GIVEN ROWS OF THIS SEAT. 7 by the template 'for every input the law returns true; each argument reads behind the call as it read before'; 0 by the template 'total and deterministic' (their statements: YtiboombocnfngaaGreatDoorTotals.lean).
  GIVEN WITH THE SEED: the statements are not yours to turn. If you find one false, say at which input.
  Laid BY PROGRAM, IN A SANDBOX (cutbox-rows.mjs): the forced cells as the released guide's own fill.sh prints them over the translation cc0c7bd04de8729c… (all of the seat's roots in one cut). By AI agents, Wed Nov 11 2026. No macro, syntax, notation, axiom, sorry.
-/
import Derived.Test.YtiboombocnfngaaGreatDoorChecked
import GoSem.Claim
import GoSem.ClaimJoined
import GoSem.ClaimMapViews
import Derived.JoinedTies
import Derived.KernelRfl
namespace Go.Proofs.YtiboombocnfngaaGreatDoor
/- THE CELL 'sum', in the pinned program and in every row, IS THE sha256 OF THE DUMP (.gsa) THAT YtiboombocnfngaaGreatDoorProg.lean LOADS. Nothing in Lean hashes anything: it is a label: what it is worth is what the hold of that sum in a sandbox is worth. -/
noncomputable def Tryz.pinned : Pinned := { name := "ytiboombocnfngaagreatdoor", sum := "cc0c7bd04de8729cba6e55f9b7a3c426ff324b5eecfb128a144f74900deaa9a3", checked := Tryz.checked }
namespace Rows
def none {H : Type} : Left H := { results := [], args := [] }

/- WHAT THE LISTED PACKAGE-LEVEL VARIABLES READ AS WHEN THE CALL BEGINS. Each datum BY PROGRAM (the guide's laid-datum.mjs) off the statement by which the dump's own 'gosem.cut.vars' lays the variable. In a bare row this is a premise. The card (YtiboombocnfngaaGreatDoorCards.lean) ties it to the program's text. -/
def laid_math_bits_deBruijn32tab {H : Type} : DataW H := .agg [.lit (.int .u8 0), .lit (.int .u8 1), .lit (.int .u8 28), .lit (.int .u8 2), .lit (.int .u8 29), .lit (.int .u8 14), .lit (.int .u8 24), .lit (.int .u8 3), .lit (.int .u8 30), .lit (.int .u8 22), .lit (.int .u8 20), .lit (.int .u8 15), .lit (.int .u8 25), .lit (.int .u8 17), .lit (.int .u8 4), .lit (.int .u8 8), .lit (.int .u8 31), .lit (.int .u8 27), .lit (.int .u8 13), .lit (.int .u8 23), .lit (.int .u8 21), .lit (.int .u8 19), .lit (.int .u8 16), .lit (.int .u8 7), .lit (.int .u8 26), .lit (.int .u8 12), .lit (.int .u8 18), .lit (.int .u8 6), .lit (.int .u8 11), .lit (.int .u8 5), .lit (.int .u8 10), .lit (.int .u8 9)]
def laid_math_bits_deBruijn64tab {H : Type} : DataW H := .agg [.lit (.int .u8 0), .lit (.int .u8 1), .lit (.int .u8 56), .lit (.int .u8 2), .lit (.int .u8 57), .lit (.int .u8 49), .lit (.int .u8 28), .lit (.int .u8 3), .lit (.int .u8 61), .lit (.int .u8 58), .lit (.int .u8 42), .lit (.int .u8 50), .lit (.int .u8 38), .lit (.int .u8 29), .lit (.int .u8 17), .lit (.int .u8 4), .lit (.int .u8 62), .lit (.int .u8 47), .lit (.int .u8 59), .lit (.int .u8 36), .lit (.int .u8 45), .lit (.int .u8 43), .lit (.int .u8 51), .lit (.int .u8 22), .lit (.int .u8 53), .lit (.int .u8 39), .lit (.int .u8 33), .lit (.int .u8 30), .lit (.int .u8 24), .lit (.int .u8 18), .lit (.int .u8 12), .lit (.int .u8 5), .lit (.int .u8 63), .lit (.int .u8 55), .lit (.int .u8 48), .lit (.int .u8 27), .lit (.int .u8 60), .lit (.int .u8 41), .lit (.int .u8 37), .lit (.int .u8 16), .lit (.int .u8 46), .lit (.int .u8 35), .lit (.int .u8 44), .lit (.int .u8 21), .lit (.int .u8 52), .lit (.int .u8 32), .lit (.int .u8 23), .lit (.int .u8 11), .lit (.int .u8 54), .lit (.int .u8 26), .lit (.int .u8 40), .lit (.int .u8 15), .lit (.int .u8 34), .lit (.int .u8 20), .lit (.int .u8 31), .lit (.int .u8 10), .lit (.int .u8 25), .lit (.int .u8 14), .lit (.int .u8 19), .lit (.int .u8 9), .lit (.int .u8 13), .lit (.int .u8 8), .lit (.int .u8 7), .lit (.int .u8 6)]
def laid_internal_strconv_uint64pow10 {H : Type} : DataW H := .agg [.lit (.int .u64 1), .lit (.int .u64 10), .lit (.int .u64 100), .lit (.int .u64 1000), .lit (.int .u64 10000), .lit (.int .u64 100000), .lit (.int .u64 1000000), .lit (.int .u64 10000000), .lit (.int .u64 100000000), .lit (.int .u64 1000000000), .lit (.int .u64 10000000000), .lit (.int .u64 100000000000), .lit (.int .u64 1000000000000), .lit (.int .u64 10000000000000), .lit (.int .u64 100000000000000), .lit (.int .u64 1000000000000000), .lit (.int .u64 10000000000000000), .lit (.int .u64 100000000000000000), .lit (.int .u64 1000000000000000000), .lit (.int .u64 10000000000000000000)]

/-- 'quiltlaw25.PristineOrder': WHATEVER THE INPUT: true; the input reads as it did. -/
def pristineOrderSpec : ChangeSpec := { name := "pristineOrder", fn := fun _ => fun
  | [d1, d2] => { results := [.lit (.bool true)], args := [d1, d2] }
  | _ => none }
def pristineOrderRow : OpenClaim := { program := "ytiboombocnfngaagreatdoor", sum := "cc0c7bd04de8729cba6e55f9b7a3c426ff324b5eecfb128a144f74900deaa9a3", func := "quilt/quiltlaw25.PristineOrder", spec := "pristineOrder", inPlace := ["internal/bytealg.Compare", "internal/bytealg.IndexByteString", "internal/abi.NoEscape", "slices.overlaps[quilt/api.Stored]"], unfollowed := true, recurses := true, named := ["internal/strconv.uint64pow10", "math/bits.deBruijn32tab", "math/bits.deBruijn64tab"], plainKeys := false, apart := false, laid := [("math/bits.deBruijn32tab", laid_math_bits_deBruijn32tab), ("math/bits.deBruijn64tab", laid_math_bits_deBruijn64tab), ("internal/strconv.uint64pow10", laid_internal_strconv_uint64pow10)] }
def PristineOrderSaid : Prop := pristineOrderRow.holds Tryz.pinned (OpenSpec.ofChange pristineOrderSpec)

/-- ITS FALSE NEIGHBOUR: 'it returns false'. Refute it at one input. -/
def pristineOrderWrong : ChangeSpec := { name := "pristineOrder", fn := fun _ => fun
  | [d1, d2] => { results := [.lit (.bool false)], args := [d1, d2] }
  | _ => none }
def PristineOrderWrongFalsely : Prop := pristineOrderRow.holds Tryz.pinned (OpenSpec.ofChange pristineOrderWrong)

/-- 'quiltlaw25.PristineApply': WHATEVER THE INPUT: true; the input reads as it did. -/
def pristineApplySpec : ChangeSpec := { name := "pristineApply", fn := fun _ => fun
  | [d1, d2, d3] => { results := [.lit (.bool true)], args := [d1, d2, d3] }
  | _ => none }
def pristineApplyRow : OpenClaim := { program := "ytiboombocnfngaagreatdoor", sum := "cc0c7bd04de8729cba6e55f9b7a3c426ff324b5eecfb128a144f74900deaa9a3", func := "quilt/quiltlaw25.PristineApply", spec := "pristineApply", inPlace := ["internal/bytealg.Compare", "internal/bytealg.IndexByteString", "internal/abi.NoEscape", "slices.overlaps[quilt/api.Stored]"], unfollowed := true, recurses := true, named := ["internal/strconv.uint64pow10", "math/bits.deBruijn32tab", "math/bits.deBruijn64tab"], plainKeys := false, apart := false, laid := [("math/bits.deBruijn32tab", laid_math_bits_deBruijn32tab), ("math/bits.deBruijn64tab", laid_math_bits_deBruijn64tab), ("internal/strconv.uint64pow10", laid_internal_strconv_uint64pow10)] }
def PristineApplySaid : Prop := pristineApplyRow.holds Tryz.pinned (OpenSpec.ofChange pristineApplySpec)

/-- ITS FALSE NEIGHBOUR: 'it returns false'. Refute it at one input. -/
def pristineApplyWrong : ChangeSpec := { name := "pristineApply", fn := fun _ => fun
  | [d1, d2, d3] => { results := [.lit (.bool false)], args := [d1, d2, d3] }
  | _ => none }
def PristineApplyWrongFalsely : Prop := pristineApplyRow.holds Tryz.pinned (OpenSpec.ofChange pristineApplyWrong)

/-- 'quiltlaw25.PristineLiving': WHATEVER THE INPUT: true; the input reads as it did. -/
def pristineLivingSpec : ChangeSpec := { name := "pristineLiving", fn := fun _ => fun
  | [d1, d2] => { results := [.lit (.bool true)], args := [d1, d2] }
  | _ => none }
def pristineLivingRow : OpenClaim := { program := "ytiboombocnfngaagreatdoor", sum := "cc0c7bd04de8729cba6e55f9b7a3c426ff324b5eecfb128a144f74900deaa9a3", func := "quilt/quiltlaw25.PristineLiving", spec := "pristineLiving", inPlace := ["internal/bytealg.Compare", "internal/bytealg.IndexByteString", "internal/abi.NoEscape", "slices.overlaps[quilt/api.Stored]"], unfollowed := true, recurses := true, named := ["internal/strconv.uint64pow10", "math/bits.deBruijn32tab", "math/bits.deBruijn64tab"], plainKeys := false, apart := false, laid := [("math/bits.deBruijn32tab", laid_math_bits_deBruijn32tab), ("math/bits.deBruijn64tab", laid_math_bits_deBruijn64tab), ("internal/strconv.uint64pow10", laid_internal_strconv_uint64pow10)] }
def PristineLivingSaid : Prop := pristineLivingRow.holds Tryz.pinned (OpenSpec.ofChange pristineLivingSpec)

/-- ITS FALSE NEIGHBOUR: 'it returns false'. Refute it at one input. -/
def pristineLivingWrong : ChangeSpec := { name := "pristineLiving", fn := fun _ => fun
  | [d1, d2] => { results := [.lit (.bool false)], args := [d1, d2] }
  | _ => none }
def PristineLivingWrongFalsely : Prop := pristineLivingRow.holds Tryz.pinned (OpenSpec.ofChange pristineLivingWrong)

/-- 'quiltlaw25.PristineRemoved': WHATEVER THE INPUT: true; the input reads as it did. -/
def pristineRemovedSpec : ChangeSpec := { name := "pristineRemoved", fn := fun _ => fun
  | [d1, d2] => { results := [.lit (.bool true)], args := [d1, d2] }
  | _ => none }
def pristineRemovedRow : OpenClaim := { program := "ytiboombocnfngaagreatdoor", sum := "cc0c7bd04de8729cba6e55f9b7a3c426ff324b5eecfb128a144f74900deaa9a3", func := "quilt/quiltlaw25.PristineRemoved", spec := "pristineRemoved", inPlace := ["internal/bytealg.Compare", "internal/bytealg.IndexByteString", "internal/abi.NoEscape", "slices.overlaps[quilt/api.Stored]"], unfollowed := true, recurses := true, named := ["internal/strconv.uint64pow10", "math/bits.deBruijn32tab", "math/bits.deBruijn64tab"], plainKeys := false, apart := false, laid := [("math/bits.deBruijn32tab", laid_math_bits_deBruijn32tab), ("math/bits.deBruijn64tab", laid_math_bits_deBruijn64tab), ("internal/strconv.uint64pow10", laid_internal_strconv_uint64pow10)] }
def PristineRemovedSaid : Prop := pristineRemovedRow.holds Tryz.pinned (OpenSpec.ofChange pristineRemovedSpec)

/-- ITS FALSE NEIGHBOUR: 'it returns false'. Refute it at one input. -/
def pristineRemovedWrong : ChangeSpec := { name := "pristineRemoved", fn := fun _ => fun
  | [d1, d2] => { results := [.lit (.bool false)], args := [d1, d2] }
  | _ => none }
def PristineRemovedWrongFalsely : Prop := pristineRemovedRow.holds Tryz.pinned (OpenSpec.ofChange pristineRemovedWrong)

/-- 'quiltlaw25.PristineAdded': WHATEVER THE INPUT: true; the input reads as it did. -/
def pristineAddedSpec : ChangeSpec := { name := "pristineAdded", fn := fun _ => fun
  | [d1, d2] => { results := [.lit (.bool true)], args := [d1, d2] }
  | _ => none }
def pristineAddedRow : OpenClaim := { program := "ytiboombocnfngaagreatdoor", sum := "cc0c7bd04de8729cba6e55f9b7a3c426ff324b5eecfb128a144f74900deaa9a3", func := "quilt/quiltlaw25.PristineAdded", spec := "pristineAdded", inPlace := ["internal/bytealg.Compare", "internal/bytealg.IndexByteString", "internal/abi.NoEscape", "slices.overlaps[quilt/api.Stored]"], unfollowed := true, recurses := true, named := ["internal/strconv.uint64pow10", "math/bits.deBruijn32tab", "math/bits.deBruijn64tab"], plainKeys := false, apart := false, laid := [("math/bits.deBruijn32tab", laid_math_bits_deBruijn32tab), ("math/bits.deBruijn64tab", laid_math_bits_deBruijn64tab), ("internal/strconv.uint64pow10", laid_internal_strconv_uint64pow10)] }
def PristineAddedSaid : Prop := pristineAddedRow.holds Tryz.pinned (OpenSpec.ofChange pristineAddedSpec)

/-- ITS FALSE NEIGHBOUR: 'it returns false'. Refute it at one input. -/
def pristineAddedWrong : ChangeSpec := { name := "pristineAdded", fn := fun _ => fun
  | [d1, d2] => { results := [.lit (.bool false)], args := [d1, d2] }
  | _ => none }
def PristineAddedWrongFalsely : Prop := pristineAddedRow.holds Tryz.pinned (OpenSpec.ofChange pristineAddedWrong)

/-- 'quiltlaw25.PristineUndone': WHATEVER THE INPUT: true; the input reads as it did. -/
def pristineUndoneSpec : ChangeSpec := { name := "pristineUndone", fn := fun _ => fun
  | [d1, d2] => { results := [.lit (.bool true)], args := [d1, d2] }
  | _ => none }
def pristineUndoneRow : OpenClaim := { program := "ytiboombocnfngaagreatdoor", sum := "cc0c7bd04de8729cba6e55f9b7a3c426ff324b5eecfb128a144f74900deaa9a3", func := "quilt/quiltlaw25.PristineUndone", spec := "pristineUndone", inPlace := ["internal/bytealg.Compare", "internal/bytealg.IndexByteString", "internal/abi.NoEscape", "slices.overlaps[quilt/api.Stored]"], unfollowed := true, recurses := true, named := ["internal/strconv.uint64pow10", "math/bits.deBruijn32tab", "math/bits.deBruijn64tab"], plainKeys := false, apart := false, laid := [("math/bits.deBruijn32tab", laid_math_bits_deBruijn32tab), ("math/bits.deBruijn64tab", laid_math_bits_deBruijn64tab), ("internal/strconv.uint64pow10", laid_internal_strconv_uint64pow10)] }
def PristineUndoneSaid : Prop := pristineUndoneRow.holds Tryz.pinned (OpenSpec.ofChange pristineUndoneSpec)

/-- ITS FALSE NEIGHBOUR: 'it returns false'. Refute it at one input. -/
def pristineUndoneWrong : ChangeSpec := { name := "pristineUndone", fn := fun _ => fun
  | [d1, d2] => { results := [.lit (.bool false)], args := [d1, d2] }
  | _ => none }
def PristineUndoneWrongFalsely : Prop := pristineUndoneRow.holds Tryz.pinned (OpenSpec.ofChange pristineUndoneWrong)

/-- 'quiltlaw25.PristineSet': WHATEVER THE INPUT: true; the input reads as it did. -/
def pristineSetSpec : ChangeSpec := { name := "pristineSet", fn := fun _ => fun
  | [d1, d2] => { results := [.lit (.bool true)], args := [d1, d2] }
  | _ => none }
def pristineSetRow : OpenClaim := { program := "ytiboombocnfngaagreatdoor", sum := "cc0c7bd04de8729cba6e55f9b7a3c426ff324b5eecfb128a144f74900deaa9a3", func := "quilt/quiltlaw25.PristineSet", spec := "pristineSet", inPlace := ["internal/bytealg.Compare", "internal/bytealg.IndexByteString", "internal/abi.NoEscape", "slices.overlaps[quilt/api.Stored]"], unfollowed := true, recurses := true, named := ["internal/strconv.uint64pow10", "math/bits.deBruijn32tab", "math/bits.deBruijn64tab"], plainKeys := false, apart := false, laid := [("math/bits.deBruijn32tab", laid_math_bits_deBruijn32tab), ("math/bits.deBruijn64tab", laid_math_bits_deBruijn64tab), ("internal/strconv.uint64pow10", laid_internal_strconv_uint64pow10)] }
def PristineSetSaid : Prop := pristineSetRow.holds Tryz.pinned (OpenSpec.ofChange pristineSetSpec)

/-- ITS FALSE NEIGHBOUR: 'it returns false'. Refute it at one input. -/
def pristineSetWrong : ChangeSpec := { name := "pristineSet", fn := fun _ => fun
  | [d1, d2] => { results := [.lit (.bool false)], args := [d1, d2] }
  | _ => none }
def PristineSetWrongFalsely : Prop := pristineSetRow.holds Tryz.pinned (OpenSpec.ofChange pristineSetWrong)

/- THE SECOND FORM. 'bulk': how many values and letters a reading holds, each counted each time it is reached (what is shared counts as often as it is met; a slice's spare places count too). A statement '..UptoSaid' is the law's where the arguments, and the package variables that the reading takes, are together of bulk at most 1048576: NARROWER than '..Said'. Prove '..Said' where nothing that the law and all that it calls make is longer than what came in: it says more and counts as full. Else prove '..UptoSaid'. A law counts once. -/
mutual
def uptoBulk {H : Type} : DataW H → Nat
  | .lit (.string bytes) => bytes.length + 1
  | .lit _ => 1
  | .nil => 1
  | .ptr d => uptoBulk d + 1
  | .slice elems spare => uptoBulkAll elems + uptoBulkAll spare + 1
  | .agg parts => uptoBulkAll parts + 1
  | .iface _ d => uptoBulk d + 1
  | .map entries => uptoBulkEntries entries + 1
  | .held _ => 1
def uptoBulkAll {H : Type} : List (DataW H) → Nat
  | [] => 0
  | d :: r => uptoBulk d + uptoBulkAll r
def uptoBulkEntries {H : Type} : List (Lit × DataW H) → Nat
  | [] => 0
  | x :: r => uptoBulkEntry x + uptoBulkEntries r
def uptoBulkEntry {H : Type} : Lit × DataW H → Nat
  | (.string bytes, d) => bytes.length + uptoBulk d + 1
  | (_, d) => uptoBulk d + 1
 end
def uptoSmall : (H : Type) → List (DataW H) → Bool := fun _ ds => decide (uptoBulkAll ds ≤ 1048576)
def OpenSpec.upto (s : _root_.Go.ChangeSpec) : _root_.Go.OpenSpec := { _root_.Go.OpenSpec.ofChange s with cond := some uptoSmall }

/-- 'quiltlaw25.PristineOrder', WHERE WHAT IT READS IS OF BULK AT MOST 1048576: true; the input reads as it did. -/
def pristineOrderUptoRow : OpenClaim := { program := "ytiboombocnfngaagreatdoor", sum := "cc0c7bd04de8729cba6e55f9b7a3c426ff324b5eecfb128a144f74900deaa9a3", func := "quilt/quiltlaw25.PristineOrder", spec := "pristineOrder", inPlace := ["internal/bytealg.Compare", "internal/bytealg.IndexByteString", "internal/abi.NoEscape", "slices.overlaps[quilt/api.Stored]"], unfollowed := true, recurses := true, named := ["internal/strconv.uint64pow10", "math/bits.deBruijn32tab", "math/bits.deBruijn64tab"], plainKeys := false, apart := false, laid := [("math/bits.deBruijn32tab", laid_math_bits_deBruijn32tab), ("math/bits.deBruijn64tab", laid_math_bits_deBruijn64tab), ("internal/strconv.uint64pow10", laid_internal_strconv_uint64pow10)], narrowed := true }
def PristineOrderUptoSaid : Prop := pristineOrderUptoRow.holds Tryz.pinned (OpenSpec.upto pristineOrderSpec)

/-- 'quiltlaw25.PristineApply', WHERE WHAT IT READS IS OF BULK AT MOST 1048576: true; the input reads as it did. -/
def pristineApplyUptoRow : OpenClaim := { program := "ytiboombocnfngaagreatdoor", sum := "cc0c7bd04de8729cba6e55f9b7a3c426ff324b5eecfb128a144f74900deaa9a3", func := "quilt/quiltlaw25.PristineApply", spec := "pristineApply", inPlace := ["internal/bytealg.Compare", "internal/bytealg.IndexByteString", "internal/abi.NoEscape", "slices.overlaps[quilt/api.Stored]"], unfollowed := true, recurses := true, named := ["internal/strconv.uint64pow10", "math/bits.deBruijn32tab", "math/bits.deBruijn64tab"], plainKeys := false, apart := false, laid := [("math/bits.deBruijn32tab", laid_math_bits_deBruijn32tab), ("math/bits.deBruijn64tab", laid_math_bits_deBruijn64tab), ("internal/strconv.uint64pow10", laid_internal_strconv_uint64pow10)], narrowed := true }
def PristineApplyUptoSaid : Prop := pristineApplyUptoRow.holds Tryz.pinned (OpenSpec.upto pristineApplySpec)

/-- 'quiltlaw25.PristineLiving', WHERE WHAT IT READS IS OF BULK AT MOST 1048576: true; the input reads as it did. -/
def pristineLivingUptoRow : OpenClaim := { program := "ytiboombocnfngaagreatdoor", sum := "cc0c7bd04de8729cba6e55f9b7a3c426ff324b5eecfb128a144f74900deaa9a3", func := "quilt/quiltlaw25.PristineLiving", spec := "pristineLiving", inPlace := ["internal/bytealg.Compare", "internal/bytealg.IndexByteString", "internal/abi.NoEscape", "slices.overlaps[quilt/api.Stored]"], unfollowed := true, recurses := true, named := ["internal/strconv.uint64pow10", "math/bits.deBruijn32tab", "math/bits.deBruijn64tab"], plainKeys := false, apart := false, laid := [("math/bits.deBruijn32tab", laid_math_bits_deBruijn32tab), ("math/bits.deBruijn64tab", laid_math_bits_deBruijn64tab), ("internal/strconv.uint64pow10", laid_internal_strconv_uint64pow10)], narrowed := true }
def PristineLivingUptoSaid : Prop := pristineLivingUptoRow.holds Tryz.pinned (OpenSpec.upto pristineLivingSpec)

/-- 'quiltlaw25.PristineRemoved', WHERE WHAT IT READS IS OF BULK AT MOST 1048576: true; the input reads as it did. -/
def pristineRemovedUptoRow : OpenClaim := { program := "ytiboombocnfngaagreatdoor", sum := "cc0c7bd04de8729cba6e55f9b7a3c426ff324b5eecfb128a144f74900deaa9a3", func := "quilt/quiltlaw25.PristineRemoved", spec := "pristineRemoved", inPlace := ["internal/bytealg.Compare", "internal/bytealg.IndexByteString", "internal/abi.NoEscape", "slices.overlaps[quilt/api.Stored]"], unfollowed := true, recurses := true, named := ["internal/strconv.uint64pow10", "math/bits.deBruijn32tab", "math/bits.deBruijn64tab"], plainKeys := false, apart := false, laid := [("math/bits.deBruijn32tab", laid_math_bits_deBruijn32tab), ("math/bits.deBruijn64tab", laid_math_bits_deBruijn64tab), ("internal/strconv.uint64pow10", laid_internal_strconv_uint64pow10)], narrowed := true }
def PristineRemovedUptoSaid : Prop := pristineRemovedUptoRow.holds Tryz.pinned (OpenSpec.upto pristineRemovedSpec)

/-- 'quiltlaw25.PristineAdded', WHERE WHAT IT READS IS OF BULK AT MOST 1048576: true; the input reads as it did. -/
def pristineAddedUptoRow : OpenClaim := { program := "ytiboombocnfngaagreatdoor", sum := "cc0c7bd04de8729cba6e55f9b7a3c426ff324b5eecfb128a144f74900deaa9a3", func := "quilt/quiltlaw25.PristineAdded", spec := "pristineAdded", inPlace := ["internal/bytealg.Compare", "internal/bytealg.IndexByteString", "internal/abi.NoEscape", "slices.overlaps[quilt/api.Stored]"], unfollowed := true, recurses := true, named := ["internal/strconv.uint64pow10", "math/bits.deBruijn32tab", "math/bits.deBruijn64tab"], plainKeys := false, apart := false, laid := [("math/bits.deBruijn32tab", laid_math_bits_deBruijn32tab), ("math/bits.deBruijn64tab", laid_math_bits_deBruijn64tab), ("internal/strconv.uint64pow10", laid_internal_strconv_uint64pow10)], narrowed := true }
def PristineAddedUptoSaid : Prop := pristineAddedUptoRow.holds Tryz.pinned (OpenSpec.upto pristineAddedSpec)

/-- 'quiltlaw25.PristineUndone', WHERE WHAT IT READS IS OF BULK AT MOST 1048576: true; the input reads as it did. -/
def pristineUndoneUptoRow : OpenClaim := { program := "ytiboombocnfngaagreatdoor", sum := "cc0c7bd04de8729cba6e55f9b7a3c426ff324b5eecfb128a144f74900deaa9a3", func := "quilt/quiltlaw25.PristineUndone", spec := "pristineUndone", inPlace := ["internal/bytealg.Compare", "internal/bytealg.IndexByteString", "internal/abi.NoEscape", "slices.overlaps[quilt/api.Stored]"], unfollowed := true, recurses := true, named := ["internal/strconv.uint64pow10", "math/bits.deBruijn32tab", "math/bits.deBruijn64tab"], plainKeys := false, apart := false, laid := [("math/bits.deBruijn32tab", laid_math_bits_deBruijn32tab), ("math/bits.deBruijn64tab", laid_math_bits_deBruijn64tab), ("internal/strconv.uint64pow10", laid_internal_strconv_uint64pow10)], narrowed := true }
def PristineUndoneUptoSaid : Prop := pristineUndoneUptoRow.holds Tryz.pinned (OpenSpec.upto pristineUndoneSpec)

/-- 'quiltlaw25.PristineSet', WHERE WHAT IT READS IS OF BULK AT MOST 1048576: true; the input reads as it did. -/
def pristineSetUptoRow : OpenClaim := { program := "ytiboombocnfngaagreatdoor", sum := "cc0c7bd04de8729cba6e55f9b7a3c426ff324b5eecfb128a144f74900deaa9a3", func := "quilt/quiltlaw25.PristineSet", spec := "pristineSet", inPlace := ["internal/bytealg.Compare", "internal/bytealg.IndexByteString", "internal/abi.NoEscape", "slices.overlaps[quilt/api.Stored]"], unfollowed := true, recurses := true, named := ["internal/strconv.uint64pow10", "math/bits.deBruijn32tab", "math/bits.deBruijn64tab"], plainKeys := false, apart := false, laid := [("math/bits.deBruijn32tab", laid_math_bits_deBruijn32tab), ("math/bits.deBruijn64tab", laid_math_bits_deBruijn64tab), ("internal/strconv.uint64pow10", laid_internal_strconv_uint64pow10)], narrowed := true }
def PristineSetUptoSaid : Prop := pristineSetUptoRow.holds Tryz.pinned (OpenSpec.upto pristineSetSpec)

end Rows
end Go.Proofs.YtiboombocnfngaaGreatDoor
