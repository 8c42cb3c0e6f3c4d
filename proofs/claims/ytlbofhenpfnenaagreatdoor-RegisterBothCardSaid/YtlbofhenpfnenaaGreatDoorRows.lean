/-
  NARROWER THAN 'FOR EVERY INPUT', by the rows' own cells (each row's printed sentence says how): RegisterConflicts: laid · RegisterLast: laid · RegisterBoth: laid · RegisterValues: laid · RegisterShown: laid · RegisterSplice: laid · RegisterBack: laid · RegisterBytes: laid.
  DERIVED. THE GIVEN ROWS OF THIS SEAT. 8 by the template 'for every input the law returns true; each argument reads behind the call as it read before'; 0 by the template 'total and deterministic' (their statements: YtlbofhenpfnenaaGreatDoorTotals.lean).
  GIVEN WITH THE SEED: the statements are not yours to turn. If you find one false, say at which input.
  Laid BY PROGRAM, IN A SANDBOX (cutbox-rows.mjs): the forced cells as the released guide's own fill.sh prints them over the translation 4bb85eca25890380… (all of the seat's roots in one cut). By AI agents, Wed Nov 11 2026. No macro, syntax, notation, axiom, sorry.
-/
import Derived.Test.YtlbofhenpfnenaaGreatDoorChecked
import GoSem.Claim
import GoSem.ClaimJoined
import GoSem.ClaimMapViews
import Derived.JoinedTies
import Derived.KernelRfl
namespace Go.Proofs.YtlbofhenpfnenaaGreatDoor
/- THE CELL 'sum', in the pinned program and in every row, IS THE sha256 OF THE DUMP (.gsa) THAT YtlbofhenpfnenaaGreatDoorProg.lean LOADS. Nothing in Lean hashes anything: it is a label: what it is worth is what the hold of that sum in a sandbox is worth. -/
noncomputable def Tryz.pinned : Pinned := { name := "ytlbofhenpfnenaagreatdoor", sum := "4bb85eca2589038081b7021dd8247c00e1f79dd354aeb2c1075a4754bcaaf6c5", checked := Tryz.checked }
namespace Rows
def none {H : Type} : Left H := { results := [], args := [] }

/- WHAT THE LISTED PACKAGE-LEVEL VARIABLES READ AS WHEN THE CALL BEGINS. Each datum BY PROGRAM (the guide's laid-datum.mjs) off the statement by which the dump's own 'gosem.cut.vars' lays the variable. In a bare row this is a premise. The card (YtlbofhenpfnenaaGreatDoorCards.lean) ties it to the program's text. -/
def laid_math_bits_deBruijn32tab {H : Type} : DataW H := .agg [.lit (.int .u8 0), .lit (.int .u8 1), .lit (.int .u8 28), .lit (.int .u8 2), .lit (.int .u8 29), .lit (.int .u8 14), .lit (.int .u8 24), .lit (.int .u8 3), .lit (.int .u8 30), .lit (.int .u8 22), .lit (.int .u8 20), .lit (.int .u8 15), .lit (.int .u8 25), .lit (.int .u8 17), .lit (.int .u8 4), .lit (.int .u8 8), .lit (.int .u8 31), .lit (.int .u8 27), .lit (.int .u8 13), .lit (.int .u8 23), .lit (.int .u8 21), .lit (.int .u8 19), .lit (.int .u8 16), .lit (.int .u8 7), .lit (.int .u8 26), .lit (.int .u8 12), .lit (.int .u8 18), .lit (.int .u8 6), .lit (.int .u8 11), .lit (.int .u8 5), .lit (.int .u8 10), .lit (.int .u8 9)]
def laid_math_bits_deBruijn64tab {H : Type} : DataW H := .agg [.lit (.int .u8 0), .lit (.int .u8 1), .lit (.int .u8 56), .lit (.int .u8 2), .lit (.int .u8 57), .lit (.int .u8 49), .lit (.int .u8 28), .lit (.int .u8 3), .lit (.int .u8 61), .lit (.int .u8 58), .lit (.int .u8 42), .lit (.int .u8 50), .lit (.int .u8 38), .lit (.int .u8 29), .lit (.int .u8 17), .lit (.int .u8 4), .lit (.int .u8 62), .lit (.int .u8 47), .lit (.int .u8 59), .lit (.int .u8 36), .lit (.int .u8 45), .lit (.int .u8 43), .lit (.int .u8 51), .lit (.int .u8 22), .lit (.int .u8 53), .lit (.int .u8 39), .lit (.int .u8 33), .lit (.int .u8 30), .lit (.int .u8 24), .lit (.int .u8 18), .lit (.int .u8 12), .lit (.int .u8 5), .lit (.int .u8 63), .lit (.int .u8 55), .lit (.int .u8 48), .lit (.int .u8 27), .lit (.int .u8 60), .lit (.int .u8 41), .lit (.int .u8 37), .lit (.int .u8 16), .lit (.int .u8 46), .lit (.int .u8 35), .lit (.int .u8 44), .lit (.int .u8 21), .lit (.int .u8 52), .lit (.int .u8 32), .lit (.int .u8 23), .lit (.int .u8 11), .lit (.int .u8 54), .lit (.int .u8 26), .lit (.int .u8 40), .lit (.int .u8 15), .lit (.int .u8 34), .lit (.int .u8 20), .lit (.int .u8 31), .lit (.int .u8 10), .lit (.int .u8 25), .lit (.int .u8 14), .lit (.int .u8 19), .lit (.int .u8 9), .lit (.int .u8 13), .lit (.int .u8 8), .lit (.int .u8 7), .lit (.int .u8 6)]
def laid_internal_strconv_uint64pow10 {H : Type} : DataW H := .agg [.lit (.int .u64 1), .lit (.int .u64 10), .lit (.int .u64 100), .lit (.int .u64 1000), .lit (.int .u64 10000), .lit (.int .u64 100000), .lit (.int .u64 1000000), .lit (.int .u64 10000000), .lit (.int .u64 100000000), .lit (.int .u64 1000000000), .lit (.int .u64 10000000000), .lit (.int .u64 100000000000), .lit (.int .u64 1000000000000), .lit (.int .u64 10000000000000), .lit (.int .u64 100000000000000), .lit (.int .u64 1000000000000000), .lit (.int .u64 10000000000000000), .lit (.int .u64 100000000000000000), .lit (.int .u64 1000000000000000000), .lit (.int .u64 10000000000000000000)]

/-- 'quiltlaw20.RegisterConflicts': WHATEVER THE INPUT: true; the input reads as it did. -/
def registerConflictsSpec : ChangeSpec := { name := "registerConflicts", fn := fun _ => fun
  | [d] => { results := [.lit (.bool true)], args := [d] }
  | _ => none }
def registerConflictsRow : OpenClaim := { program := "ytlbofhenpfnenaagreatdoor", sum := "4bb85eca2589038081b7021dd8247c00e1f79dd354aeb2c1075a4754bcaaf6c5", func := "quilt/quiltlaw20.RegisterConflicts", spec := "registerConflicts", inPlace := ["internal/bytealg.Compare", "internal/bytealg.IndexByteString", "internal/abi.NoEscape"], unfollowed := true, recurses := true, named := ["internal/strconv.uint64pow10", "math/bits.deBruijn32tab", "math/bits.deBruijn64tab"], plainKeys := false, apart := false, laid := [("math/bits.deBruijn32tab", laid_math_bits_deBruijn32tab), ("math/bits.deBruijn64tab", laid_math_bits_deBruijn64tab), ("internal/strconv.uint64pow10", laid_internal_strconv_uint64pow10)] }
def RegisterConflictsSaid : Prop := registerConflictsRow.holds Tryz.pinned (OpenSpec.ofChange registerConflictsSpec)

/-- ITS FALSE NEIGHBOUR: 'it returns false'. Refute it at one input. -/
def registerConflictsWrong : ChangeSpec := { name := "registerConflicts", fn := fun _ => fun
  | [d] => { results := [.lit (.bool false)], args := [d] }
  | _ => none }
def RegisterConflictsWrongFalsely : Prop := registerConflictsRow.holds Tryz.pinned (OpenSpec.ofChange registerConflictsWrong)

/-- 'quiltlaw20.RegisterLast': WHATEVER THE INPUT: true; the input reads as it did. -/
def registerLastSpec : ChangeSpec := { name := "registerLast", fn := fun _ => fun
  | [d1, d2, d3, d4] => { results := [.lit (.bool true)], args := [d1, d2, d3, d4] }
  | _ => none }
def registerLastRow : OpenClaim := { program := "ytlbofhenpfnenaagreatdoor", sum := "4bb85eca2589038081b7021dd8247c00e1f79dd354aeb2c1075a4754bcaaf6c5", func := "quilt/quiltlaw20.RegisterLast", spec := "registerLast", inPlace := ["internal/bytealg.Compare", "internal/bytealg.IndexByteString", "internal/abi.NoEscape"], unfollowed := true, recurses := true, named := ["internal/strconv.uint64pow10", "math/bits.deBruijn32tab", "math/bits.deBruijn64tab"], plainKeys := false, apart := false, laid := [("math/bits.deBruijn32tab", laid_math_bits_deBruijn32tab), ("math/bits.deBruijn64tab", laid_math_bits_deBruijn64tab), ("internal/strconv.uint64pow10", laid_internal_strconv_uint64pow10)] }
def RegisterLastSaid : Prop := registerLastRow.holds Tryz.pinned (OpenSpec.ofChange registerLastSpec)

/-- ITS FALSE NEIGHBOUR: 'it returns false'. Refute it at one input. -/
def registerLastWrong : ChangeSpec := { name := "registerLast", fn := fun _ => fun
  | [d1, d2, d3, d4] => { results := [.lit (.bool false)], args := [d1, d2, d3, d4] }
  | _ => none }
def RegisterLastWrongFalsely : Prop := registerLastRow.holds Tryz.pinned (OpenSpec.ofChange registerLastWrong)

/-- 'quiltlaw20.RegisterBoth': WHATEVER THE INPUT: true; the input reads as it did. -/
def registerBothSpec : ChangeSpec := { name := "registerBoth", fn := fun _ => fun
  | [d1, d2, d3] => { results := [.lit (.bool true)], args := [d1, d2, d3] }
  | _ => none }
def registerBothRow : OpenClaim := { program := "ytlbofhenpfnenaagreatdoor", sum := "4bb85eca2589038081b7021dd8247c00e1f79dd354aeb2c1075a4754bcaaf6c5", func := "quilt/quiltlaw20.RegisterBoth", spec := "registerBoth", inPlace := ["internal/bytealg.Compare", "internal/bytealg.IndexByteString", "internal/abi.NoEscape"], unfollowed := true, recurses := true, named := ["internal/strconv.uint64pow10", "math/bits.deBruijn32tab", "math/bits.deBruijn64tab"], plainKeys := false, apart := false, laid := [("math/bits.deBruijn32tab", laid_math_bits_deBruijn32tab), ("math/bits.deBruijn64tab", laid_math_bits_deBruijn64tab), ("internal/strconv.uint64pow10", laid_internal_strconv_uint64pow10)] }
def RegisterBothSaid : Prop := registerBothRow.holds Tryz.pinned (OpenSpec.ofChange registerBothSpec)

/-- ITS FALSE NEIGHBOUR: 'it returns false'. Refute it at one input. -/
def registerBothWrong : ChangeSpec := { name := "registerBoth", fn := fun _ => fun
  | [d1, d2, d3] => { results := [.lit (.bool false)], args := [d1, d2, d3] }
  | _ => none }
def RegisterBothWrongFalsely : Prop := registerBothRow.holds Tryz.pinned (OpenSpec.ofChange registerBothWrong)

/-- 'quiltlaw20.RegisterValues': WHATEVER THE INPUT: true; the input reads as it did. -/
def registerValuesSpec : ChangeSpec := { name := "registerValues", fn := fun _ => fun
  | [d1, d2, d3] => { results := [.lit (.bool true)], args := [d1, d2, d3] }
  | _ => none }
def registerValuesRow : OpenClaim := { program := "ytlbofhenpfnenaagreatdoor", sum := "4bb85eca2589038081b7021dd8247c00e1f79dd354aeb2c1075a4754bcaaf6c5", func := "quilt/quiltlaw20.RegisterValues", spec := "registerValues", inPlace := ["internal/bytealg.Compare", "internal/bytealg.IndexByteString", "internal/abi.NoEscape"], unfollowed := true, recurses := true, named := ["internal/strconv.uint64pow10", "math/bits.deBruijn32tab", "math/bits.deBruijn64tab"], plainKeys := false, apart := false, laid := [("math/bits.deBruijn32tab", laid_math_bits_deBruijn32tab), ("math/bits.deBruijn64tab", laid_math_bits_deBruijn64tab), ("internal/strconv.uint64pow10", laid_internal_strconv_uint64pow10)] }
def RegisterValuesSaid : Prop := registerValuesRow.holds Tryz.pinned (OpenSpec.ofChange registerValuesSpec)

/-- ITS FALSE NEIGHBOUR: 'it returns false'. Refute it at one input. -/
def registerValuesWrong : ChangeSpec := { name := "registerValues", fn := fun _ => fun
  | [d1, d2, d3] => { results := [.lit (.bool false)], args := [d1, d2, d3] }
  | _ => none }
def RegisterValuesWrongFalsely : Prop := registerValuesRow.holds Tryz.pinned (OpenSpec.ofChange registerValuesWrong)

/-- 'quiltlaw20.RegisterShown': WHATEVER THE INPUT: true; the input reads as it did. -/
def registerShownSpec : ChangeSpec := { name := "registerShown", fn := fun _ => fun
  | [d1, d2] => { results := [.lit (.bool true)], args := [d1, d2] }
  | _ => none }
def registerShownRow : OpenClaim := { program := "ytlbofhenpfnenaagreatdoor", sum := "4bb85eca2589038081b7021dd8247c00e1f79dd354aeb2c1075a4754bcaaf6c5", func := "quilt/quiltlaw20.RegisterShown", spec := "registerShown", inPlace := ["internal/bytealg.Compare", "internal/bytealg.IndexByteString", "internal/abi.NoEscape"], unfollowed := true, recurses := true, named := ["internal/strconv.uint64pow10", "math/bits.deBruijn32tab", "math/bits.deBruijn64tab"], plainKeys := false, apart := false, laid := [("math/bits.deBruijn32tab", laid_math_bits_deBruijn32tab), ("math/bits.deBruijn64tab", laid_math_bits_deBruijn64tab), ("internal/strconv.uint64pow10", laid_internal_strconv_uint64pow10)] }
def RegisterShownSaid : Prop := registerShownRow.holds Tryz.pinned (OpenSpec.ofChange registerShownSpec)

/-- ITS FALSE NEIGHBOUR: 'it returns false'. Refute it at one input. -/
def registerShownWrong : ChangeSpec := { name := "registerShown", fn := fun _ => fun
  | [d1, d2] => { results := [.lit (.bool false)], args := [d1, d2] }
  | _ => none }
def RegisterShownWrongFalsely : Prop := registerShownRow.holds Tryz.pinned (OpenSpec.ofChange registerShownWrong)

/-- 'quiltlaw20.RegisterSplice': WHATEVER THE INPUT: true; the input reads as it did. -/
def registerSpliceSpec : ChangeSpec := { name := "registerSplice", fn := fun _ => fun
  | [d1, d2, d3, d4] => { results := [.lit (.bool true)], args := [d1, d2, d3, d4] }
  | _ => none }
def registerSpliceRow : OpenClaim := { program := "ytlbofhenpfnenaagreatdoor", sum := "4bb85eca2589038081b7021dd8247c00e1f79dd354aeb2c1075a4754bcaaf6c5", func := "quilt/quiltlaw20.RegisterSplice", spec := "registerSplice", inPlace := ["internal/bytealg.Compare", "internal/bytealg.IndexByteString", "internal/abi.NoEscape"], unfollowed := true, recurses := true, named := ["internal/strconv.uint64pow10", "math/bits.deBruijn32tab", "math/bits.deBruijn64tab"], plainKeys := false, apart := false, laid := [("math/bits.deBruijn32tab", laid_math_bits_deBruijn32tab), ("math/bits.deBruijn64tab", laid_math_bits_deBruijn64tab), ("internal/strconv.uint64pow10", laid_internal_strconv_uint64pow10)] }
def RegisterSpliceSaid : Prop := registerSpliceRow.holds Tryz.pinned (OpenSpec.ofChange registerSpliceSpec)

/-- ITS FALSE NEIGHBOUR: 'it returns false'. Refute it at one input. -/
def registerSpliceWrong : ChangeSpec := { name := "registerSplice", fn := fun _ => fun
  | [d1, d2, d3, d4] => { results := [.lit (.bool false)], args := [d1, d2, d3, d4] }
  | _ => none }
def RegisterSpliceWrongFalsely : Prop := registerSpliceRow.holds Tryz.pinned (OpenSpec.ofChange registerSpliceWrong)

/-- 'quiltlaw20.RegisterBack': WHATEVER THE INPUT: true; the input reads as it did. -/
def registerBackSpec : ChangeSpec := { name := "registerBack", fn := fun _ => fun
  | [d1, d2, d3, d4] => { results := [.lit (.bool true)], args := [d1, d2, d3, d4] }
  | _ => none }
def registerBackRow : OpenClaim := { program := "ytlbofhenpfnenaagreatdoor", sum := "4bb85eca2589038081b7021dd8247c00e1f79dd354aeb2c1075a4754bcaaf6c5", func := "quilt/quiltlaw20.RegisterBack", spec := "registerBack", inPlace := ["internal/bytealg.Compare", "internal/bytealg.IndexByteString", "internal/abi.NoEscape"], unfollowed := true, recurses := true, named := ["internal/strconv.uint64pow10", "math/bits.deBruijn32tab", "math/bits.deBruijn64tab"], plainKeys := false, apart := false, laid := [("math/bits.deBruijn32tab", laid_math_bits_deBruijn32tab), ("math/bits.deBruijn64tab", laid_math_bits_deBruijn64tab), ("internal/strconv.uint64pow10", laid_internal_strconv_uint64pow10)] }
def RegisterBackSaid : Prop := registerBackRow.holds Tryz.pinned (OpenSpec.ofChange registerBackSpec)

/-- ITS FALSE NEIGHBOUR: 'it returns false'. Refute it at one input. -/
def registerBackWrong : ChangeSpec := { name := "registerBack", fn := fun _ => fun
  | [d1, d2, d3, d4] => { results := [.lit (.bool false)], args := [d1, d2, d3, d4] }
  | _ => none }
def RegisterBackWrongFalsely : Prop := registerBackRow.holds Tryz.pinned (OpenSpec.ofChange registerBackWrong)

/-- 'quiltlaw20.RegisterBytes': WHATEVER THE INPUT: true; the input reads as it did. -/
def registerBytesSpec : ChangeSpec := { name := "registerBytes", fn := fun _ => fun
  | [d1, d2, d3, d4] => { results := [.lit (.bool true)], args := [d1, d2, d3, d4] }
  | _ => none }
def registerBytesRow : OpenClaim := { program := "ytlbofhenpfnenaagreatdoor", sum := "4bb85eca2589038081b7021dd8247c00e1f79dd354aeb2c1075a4754bcaaf6c5", func := "quilt/quiltlaw20.RegisterBytes", spec := "registerBytes", inPlace := ["internal/bytealg.Compare", "internal/bytealg.IndexByteString", "internal/abi.NoEscape"], unfollowed := true, recurses := true, named := ["internal/strconv.uint64pow10", "math/bits.deBruijn32tab", "math/bits.deBruijn64tab"], plainKeys := false, apart := false, laid := [("math/bits.deBruijn32tab", laid_math_bits_deBruijn32tab), ("math/bits.deBruijn64tab", laid_math_bits_deBruijn64tab), ("internal/strconv.uint64pow10", laid_internal_strconv_uint64pow10)] }
def RegisterBytesSaid : Prop := registerBytesRow.holds Tryz.pinned (OpenSpec.ofChange registerBytesSpec)

/-- ITS FALSE NEIGHBOUR: 'it returns false'. Refute it at one input. -/
def registerBytesWrong : ChangeSpec := { name := "registerBytes", fn := fun _ => fun
  | [d1, d2, d3, d4] => { results := [.lit (.bool false)], args := [d1, d2, d3, d4] }
  | _ => none }
def RegisterBytesWrongFalsely : Prop := registerBytesRow.holds Tryz.pinned (OpenSpec.ofChange registerBytesWrong)

/- THE SECOND FORM. 'bulk': how many values and letters a reading holds, each counted each time it is reached (what is shared counts as often as it is met; a slice's spare places count too). A statement '..UptoSaid' is the law's where the arguments, and the package variables that the reading takes, are together of bulk at most 1048576: NARROWER than '..Said'. Prove '..Said' where nothing that the law and all that it calls make is longer than what came in: it says more and counts as full. Else prove '..UptoSaid'. A law counts once. -/
mutual
def uptoBulk {H : Type} : DataW H → Nat
  | .lit (.string bytes) => bytes.length + 1
  | .lit _ => 1
  | .nil => 1
  | .ptr d => uptoBulk d + 1
  | .slice elems spare => uptoBulkAll elems + uptoBulkAll spare + 1
  | .agg parts => uptoBulkAll parts + 1
  | .iface _ d => uptoBulk d + 1
  | .map entries => uptoBulkEntries entries + 1
  | .held _ => 1
def uptoBulkAll {H : Type} : List (DataW H) → Nat
  | [] => 0
  | d :: r => uptoBulk d + uptoBulkAll r
def uptoBulkEntries {H : Type} : List (Lit × DataW H) → Nat
  | [] => 0
  | x :: r => uptoBulkEntry x + uptoBulkEntries r
def uptoBulkEntry {H : Type} : Lit × DataW H → Nat
  | (.string bytes, d) => bytes.length + uptoBulk d + 1
  | (_, d) => uptoBulk d + 1
 end
def uptoSmall : (H : Type) → List (DataW H) → Bool := fun _ ds => decide (uptoBulkAll ds ≤ 1048576)
def OpenSpec.upto (s : _root_.Go.ChangeSpec) : _root_.Go.OpenSpec := { _root_.Go.OpenSpec.ofChange s with cond := some uptoSmall }

/-- 'quiltlaw20.RegisterConflicts', WHERE WHAT IT READS IS OF BULK AT MOST 1048576: true; the input reads as it did. -/
def registerConflictsUptoRow : OpenClaim := { program := "ytlbofhenpfnenaagreatdoor", sum := "4bb85eca2589038081b7021dd8247c00e1f79dd354aeb2c1075a4754bcaaf6c5", func := "quilt/quiltlaw20.RegisterConflicts", spec := "registerConflicts", inPlace := ["internal/bytealg.Compare", "internal/bytealg.IndexByteString", "internal/abi.NoEscape"], unfollowed := true, recurses := true, named := ["internal/strconv.uint64pow10", "math/bits.deBruijn32tab", "math/bits.deBruijn64tab"], plainKeys := false, apart := false, laid := [("math/bits.deBruijn32tab", laid_math_bits_deBruijn32tab), ("math/bits.deBruijn64tab", laid_math_bits_deBruijn64tab), ("internal/strconv.uint64pow10", laid_internal_strconv_uint64pow10)], narrowed := true }
def RegisterConflictsUptoSaid : Prop := registerConflictsUptoRow.holds Tryz.pinned (OpenSpec.upto registerConflictsSpec)

/-- 'quiltlaw20.RegisterLast', WHERE WHAT IT READS IS OF BULK AT MOST 1048576: true; the input reads as it did. -/
def registerLastUptoRow : OpenClaim := { program := "ytlbofhenpfnenaagreatdoor", sum := "4bb85eca2589038081b7021dd8247c00e1f79dd354aeb2c1075a4754bcaaf6c5", func := "quilt/quiltlaw20.RegisterLast", spec := "registerLast", inPlace := ["internal/bytealg.Compare", "internal/bytealg.IndexByteString", "internal/abi.NoEscape"], unfollowed := true, recurses := true, named := ["internal/strconv.uint64pow10", "math/bits.deBruijn32tab", "math/bits.deBruijn64tab"], plainKeys := false, apart := false, laid := [("math/bits.deBruijn32tab", laid_math_bits_deBruijn32tab), ("math/bits.deBruijn64tab", laid_math_bits_deBruijn64tab), ("internal/strconv.uint64pow10", laid_internal_strconv_uint64pow10)], narrowed := true }
def RegisterLastUptoSaid : Prop := registerLastUptoRow.holds Tryz.pinned (OpenSpec.upto registerLastSpec)

/-- 'quiltlaw20.RegisterBoth', WHERE WHAT IT READS IS OF BULK AT MOST 1048576: true; the input reads as it did. -/
def registerBothUptoRow : OpenClaim := { program := "ytlbofhenpfnenaagreatdoor", sum := "4bb85eca2589038081b7021dd8247c00e1f79dd354aeb2c1075a4754bcaaf6c5", func := "quilt/quiltlaw20.RegisterBoth", spec := "registerBoth", inPlace := ["internal/bytealg.Compare", "internal/bytealg.IndexByteString", "internal/abi.NoEscape"], unfollowed := true, recurses := true, named := ["internal/strconv.uint64pow10", "math/bits.deBruijn32tab", "math/bits.deBruijn64tab"], plainKeys := false, apart := false, laid := [("math/bits.deBruijn32tab", laid_math_bits_deBruijn32tab), ("math/bits.deBruijn64tab", laid_math_bits_deBruijn64tab), ("internal/strconv.uint64pow10", laid_internal_strconv_uint64pow10)], narrowed := true }
def RegisterBothUptoSaid : Prop := registerBothUptoRow.holds Tryz.pinned (OpenSpec.upto registerBothSpec)

/-- 'quiltlaw20.RegisterValues', WHERE WHAT IT READS IS OF BULK AT MOST 1048576: true; the input reads as it did. -/
def registerValuesUptoRow : OpenClaim := { program := "ytlbofhenpfnenaagreatdoor", sum := "4bb85eca2589038081b7021dd8247c00e1f79dd354aeb2c1075a4754bcaaf6c5", func := "quilt/quiltlaw20.RegisterValues", spec := "registerValues", inPlace := ["internal/bytealg.Compare", "internal/bytealg.IndexByteString", "internal/abi.NoEscape"], unfollowed := true, recurses := true, named := ["internal/strconv.uint64pow10", "math/bits.deBruijn32tab", "math/bits.deBruijn64tab"], plainKeys := false, apart := false, laid := [("math/bits.deBruijn32tab", laid_math_bits_deBruijn32tab), ("math/bits.deBruijn64tab", laid_math_bits_deBruijn64tab), ("internal/strconv.uint64pow10", laid_internal_strconv_uint64pow10)], narrowed := true }
def RegisterValuesUptoSaid : Prop := registerValuesUptoRow.holds Tryz.pinned (OpenSpec.upto registerValuesSpec)

/-- 'quiltlaw20.RegisterShown', WHERE WHAT IT READS IS OF BULK AT MOST 1048576: true; the input reads as it did. -/
def registerShownUptoRow : OpenClaim := { program := "ytlbofhenpfnenaagreatdoor", sum := "4bb85eca2589038081b7021dd8247c00e1f79dd354aeb2c1075a4754bcaaf6c5", func := "quilt/quiltlaw20.RegisterShown", spec := "registerShown", inPlace := ["internal/bytealg.Compare", "internal/bytealg.IndexByteString", "internal/abi.NoEscape"], unfollowed := true, recurses := true, named := ["internal/strconv.uint64pow10", "math/bits.deBruijn32tab", "math/bits.deBruijn64tab"], plainKeys := false, apart := false, laid := [("math/bits.deBruijn32tab", laid_math_bits_deBruijn32tab), ("math/bits.deBruijn64tab", laid_math_bits_deBruijn64tab), ("internal/strconv.uint64pow10", laid_internal_strconv_uint64pow10)], narrowed := true }
def RegisterShownUptoSaid : Prop := registerShownUptoRow.holds Tryz.pinned (OpenSpec.upto registerShownSpec)

/-- 'quiltlaw20.RegisterSplice', WHERE WHAT IT READS IS OF BULK AT MOST 1048576: true; the input reads as it did. -/
def registerSpliceUptoRow : OpenClaim := { program := "ytlbofhenpfnenaagreatdoor", sum := "4bb85eca2589038081b7021dd8247c00e1f79dd354aeb2c1075a4754bcaaf6c5", func := "quilt/quiltlaw20.RegisterSplice", spec := "registerSplice", inPlace := ["internal/bytealg.Compare", "internal/bytealg.IndexByteString", "internal/abi.NoEscape"], unfollowed := true, recurses := true, named := ["internal/strconv.uint64pow10", "math/bits.deBruijn32tab", "math/bits.deBruijn64tab"], plainKeys := false, apart := false, laid := [("math/bits.deBruijn32tab", laid_math_bits_deBruijn32tab), ("math/bits.deBruijn64tab", laid_math_bits_deBruijn64tab), ("internal/strconv.uint64pow10", laid_internal_strconv_uint64pow10)], narrowed := true }
def RegisterSpliceUptoSaid : Prop := registerSpliceUptoRow.holds Tryz.pinned (OpenSpec.upto registerSpliceSpec)

/-- 'quiltlaw20.RegisterBack', WHERE WHAT IT READS IS OF BULK AT MOST 1048576: true; the input reads as it did. -/
def registerBackUptoRow : OpenClaim := { program := "ytlbofhenpfnenaagreatdoor", sum := "4bb85eca2589038081b7021dd8247c00e1f79dd354aeb2c1075a4754bcaaf6c5", func := "quilt/quiltlaw20.RegisterBack", spec := "registerBack", inPlace := ["internal/bytealg.Compare", "internal/bytealg.IndexByteString", "internal/abi.NoEscape"], unfollowed := true, recurses := true, named := ["internal/strconv.uint64pow10", "math/bits.deBruijn32tab", "math/bits.deBruijn64tab"], plainKeys := false, apart := false, laid := [("math/bits.deBruijn32tab", laid_math_bits_deBruijn32tab), ("math/bits.deBruijn64tab", laid_math_bits_deBruijn64tab), ("internal/strconv.uint64pow10", laid_internal_strconv_uint64pow10)], narrowed := true }
def RegisterBackUptoSaid : Prop := registerBackUptoRow.holds Tryz.pinned (OpenSpec.upto registerBackSpec)

/-- 'quiltlaw20.RegisterBytes', WHERE WHAT IT READS IS OF BULK AT MOST 1048576: true; the input reads as it did. -/
def registerBytesUptoRow : OpenClaim := { program := "ytlbofhenpfnenaagreatdoor", sum := "4bb85eca2589038081b7021dd8247c00e1f79dd354aeb2c1075a4754bcaaf6c5", func := "quilt/quiltlaw20.RegisterBytes", spec := "registerBytes", inPlace := ["internal/bytealg.Compare", "internal/bytealg.IndexByteString", "internal/abi.NoEscape"], unfollowed := true, recurses := true, named := ["internal/strconv.uint64pow10", "math/bits.deBruijn32tab", "math/bits.deBruijn64tab"], plainKeys := false, apart := false, laid := [("math/bits.deBruijn32tab", laid_math_bits_deBruijn32tab), ("math/bits.deBruijn64tab", laid_math_bits_deBruijn64tab), ("internal/strconv.uint64pow10", laid_internal_strconv_uint64pow10)], narrowed := true }
def RegisterBytesUptoSaid : Prop := registerBytesUptoRow.holds Tryz.pinned (OpenSpec.upto registerBytesSpec)

end Rows
end Go.Proofs.YtlbofhenpfnenaaGreatDoor
