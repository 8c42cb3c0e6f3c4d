/-
  NARROWER THAN 'FOR EVERY INPUT', by the rows' own cells (each row's printed sentence says how): QueryoptNormal: loops, laid · QueryoptDisjoint: loops, laid · QueryoptInside: loops, laid · QueryoptOptimize: loops, laid · QueryoptCheaper: loops, laid · QuerylangCheck: loops, laid · QuerylangParse: laid · QuerylangRoundTrip: loops, laid · QuerylangCanonical: laid · QuerylangLayout: laid · QuerylangBinding: loops, laid · QuerylangErrors: laid.
  DERIVED. THE GIVEN ROWS OF THIS SEAT. 12 by the template 'for every input the law returns true; each argument reads behind the call as it read before'; 0 by the template 'total and deterministic' (their statements: YtpoefbbfhebakaaGreatDoorTotals.lean).
  GIVEN WITH THE SEED: the statements are not yours to turn. If you find one false, say at which input.
  Laid BY PROGRAM, IN A SANDBOX (cutbox-rows.mjs): the forced cells as the released guide's own fill.sh prints them over the translation d57dff49bea8550c… (all of the seat's roots in one cut). By AI agents, Wed Nov 11 2026. No macro, syntax, notation, axiom, sorry.
-/
import Derived.Test.YtpoefbbfhebakaaGreatDoorChecked
import GoSem.PinnedTables
import GoSem.Claim
import GoSem.ClaimJoined
import GoSem.ClaimMapViews
import Derived.JoinedTies
import Derived.KernelRfl
namespace Go.Proofs.YtpoefbbfhebakaaGreatDoor
/- THE CELL 'sum', in the pinned program and in every row, IS THE sha256 OF THE DUMP (.gsa) THAT YtpoefbbfhebakaaGreatDoorProg.lean LOADS. Nothing in Lean hashes anything: it is a label: what it is worth is what the hold of that sum in a sandbox is worth. -/
noncomputable def Tryz.pinned : Pinned := { name := "ytpoefbbfhebakaagreatdoor", sum := "d57dff49bea8550cf1bd23dffd0f661cacc5a33bef7ad76bc729745144a32ef9", checked := Tryz.checked }
namespace Rows
def none {H : Type} : Left H := { results := [], args := [] }

/- WHAT THE LISTED PACKAGE-LEVEL VARIABLES READ AS WHEN THE CALL BEGINS. Each datum BY PROGRAM (the guide's laid-datum.mjs) off the statement by which the dump's own 'gosem.cut.vars' lays the variable. In a bare row this is a premise. The card (YtpoefbbfhebakaaGreatDoorCards.lean) ties it to the program's text. -/
def laid_unicode_utf8_acceptRanges {H : Type} : DataW H := .agg [.agg [.lit (.int .u8 128), .lit (.int .u8 191)], .agg [.lit (.int .u8 160), .lit (.int .u8 191)], .agg [.lit (.int .u8 128), .lit (.int .u8 159)], .agg [.lit (.int .u8 144), .lit (.int .u8 191)], .agg [.lit (.int .u8 128), .lit (.int .u8 143)], .agg [.lit (.int .u8 0), .lit (.int .u8 0)], .agg [.lit (.int .u8 0), .lit (.int .u8 0)], .agg [.lit (.int .u8 0), .lit (.int .u8 0)], .agg [.lit (.int .u8 0), .lit (.int .u8 0)], .agg [.lit (.int .u8 0), .lit (.int .u8 0)], .agg [.lit (.int .u8 0), .lit (.int .u8 0)], .agg [.lit (.int .u8 0), .lit (.int .u8 0)], .agg [.lit (.int .u8 0), .lit (.int .u8 0)], .agg [.lit (.int .u8 0), .lit (.int .u8 0)], .agg [.lit (.int .u8 0), .lit (.int .u8 0)], .agg [.lit (.int .u8 0), .lit (.int .u8 0)]]
/-- One of Go's own tables, pinned by name: the form's constant. -/
def laid_unicode_utf8_first : DataW Unit := Go.Pinned.utf8First
def laid_math_bits_deBruijn32tab {H : Type} : DataW H := .agg [.lit (.int .u8 0), .lit (.int .u8 1), .lit (.int .u8 28), .lit (.int .u8 2), .lit (.int .u8 29), .lit (.int .u8 14), .lit (.int .u8 24), .lit (.int .u8 3), .lit (.int .u8 30), .lit (.int .u8 22), .lit (.int .u8 20), .lit (.int .u8 15), .lit (.int .u8 25), .lit (.int .u8 17), .lit (.int .u8 4), .lit (.int .u8 8), .lit (.int .u8 31), .lit (.int .u8 27), .lit (.int .u8 13), .lit (.int .u8 23), .lit (.int .u8 21), .lit (.int .u8 19), .lit (.int .u8 16), .lit (.int .u8 7), .lit (.int .u8 26), .lit (.int .u8 12), .lit (.int .u8 18), .lit (.int .u8 6), .lit (.int .u8 11), .lit (.int .u8 5), .lit (.int .u8 10), .lit (.int .u8 9)]
def laid_math_bits_deBruijn64tab {H : Type} : DataW H := .agg [.lit (.int .u8 0), .lit (.int .u8 1), .lit (.int .u8 56), .lit (.int .u8 2), .lit (.int .u8 57), .lit (.int .u8 49), .lit (.int .u8 28), .lit (.int .u8 3), .lit (.int .u8 61), .lit (.int .u8 58), .lit (.int .u8 42), .lit (.int .u8 50), .lit (.int .u8 38), .lit (.int .u8 29), .lit (.int .u8 17), .lit (.int .u8 4), .lit (.int .u8 62), .lit (.int .u8 47), .lit (.int .u8 59), .lit (.int .u8 36), .lit (.int .u8 45), .lit (.int .u8 43), .lit (.int .u8 51), .lit (.int .u8 22), .lit (.int .u8 53), .lit (.int .u8 39), .lit (.int .u8 33), .lit (.int .u8 30), .lit (.int .u8 24), .lit (.int .u8 18), .lit (.int .u8 12), .lit (.int .u8 5), .lit (.int .u8 63), .lit (.int .u8 55), .lit (.int .u8 48), .lit (.int .u8 27), .lit (.int .u8 60), .lit (.int .u8 41), .lit (.int .u8 37), .lit (.int .u8 16), .lit (.int .u8 46), .lit (.int .u8 35), .lit (.int .u8 44), .lit (.int .u8 21), .lit (.int .u8 52), .lit (.int .u8 32), .lit (.int .u8 23), .lit (.int .u8 11), .lit (.int .u8 54), .lit (.int .u8 26), .lit (.int .u8 40), .lit (.int .u8 15), .lit (.int .u8 34), .lit (.int .u8 20), .lit (.int .u8 31), .lit (.int .u8 10), .lit (.int .u8 25), .lit (.int .u8 14), .lit (.int .u8 19), .lit (.int .u8 9), .lit (.int .u8 13), .lit (.int .u8 8), .lit (.int .u8 7), .lit (.int .u8 6)]
def laid_internal_strconv_uint64pow10 {H : Type} : DataW H := .agg [.lit (.int .u64 1), .lit (.int .u64 10), .lit (.int .u64 100), .lit (.int .u64 1000), .lit (.int .u64 10000), .lit (.int .u64 100000), .lit (.int .u64 1000000), .lit (.int .u64 10000000), .lit (.int .u64 100000000), .lit (.int .u64 1000000000), .lit (.int .u64 10000000000), .lit (.int .u64 100000000000), .lit (.int .u64 1000000000000), .lit (.int .u64 10000000000000), .lit (.int .u64 100000000000000), .lit (.int .u64 1000000000000000), .lit (.int .u64 10000000000000000), .lit (.int .u64 100000000000000000), .lit (.int .u64 1000000000000000000), .lit (.int .u64 10000000000000000000)]
def laid_strconv_ErrRange {H : Type} : DataW H := .iface "*errors.errorString" (.ptr (.agg [.lit (.string [118, 97, 108, 117, 101, 32, 111, 117, 116, 32, 111, 102, 32, 114, 97, 110, 103, 101])]))
def laid_strconv_ErrSyntax {H : Type} : DataW H := .iface "*errors.errorString" (.ptr (.agg [.lit (.string [105, 110, 118, 97, 108, 105, 100, 32, 115, 121, 110, 116, 97, 120])]))
def laid_quilt_querylang_words {H : Type} : DataW H := .agg [.lit (.string []), .lit (.string [97, 108, 108]), .lit (.string [110, 111, 110, 101]), .lit (.string [97, 117, 116, 104, 111, 114]), .lit (.string [109, 101, 115, 115, 97, 103, 101]), .lit (.string [112, 97, 116, 104]), .lit (.string [98, 101, 102, 111, 114, 101]), .lit (.string [97, 102, 116, 101, 114]), .lit (.string [105, 100]), .lit (.string [110, 111, 116]), .lit (.string [97, 110, 100]), .lit (.string [111, 114]), .lit (.string [110, 101, 101, 100, 115]), .lit (.string [117, 115, 101, 114, 115])]

/-- 'quiltlaw35.QueryoptNormal': WHATEVER THE INPUT: true; the input reads as it did. -/
def queryoptNormalSpec : ChangeSpec := { name := "queryoptNormal", fn := fun _ => fun
  | [d] => { results := [.lit (.bool true)], args := [d] }
  | _ => none }
def queryoptNormalRow : OpenClaim := { program := "ytpoefbbfhebakaagreatdoor", sum := "d57dff49bea8550cf1bd23dffd0f661cacc5a33bef7ad76bc729745144a32ef9", func := "quilt/quiltlaw35.QueryoptNormal", spec := "queryoptNormal", inPlace := ["internal/bytealg.CountString", "internal/bytealg.IndexByteString", "internal/bytealg.IndexString"], unfollowed := true, recurses := true, named := ["unicode/utf8.first", "unicode/utf8.acceptRanges", "internal/bytealg.MaxLen"], loops := true, plainKeys := false, apart := false, laid := [("unicode/utf8.acceptRanges", laid_unicode_utf8_acceptRanges), ("unicode/utf8.first", laid_unicode_utf8_first)] }
def QueryoptNormalSaid : Prop := queryoptNormalRow.holds Tryz.pinned (OpenSpec.ofChange queryoptNormalSpec)

/-- ITS FALSE NEIGHBOUR: 'it returns false'. Refute it at one input. -/
def queryoptNormalWrong : ChangeSpec := { name := "queryoptNormal", fn := fun _ => fun
  | [d] => { results := [.lit (.bool false)], args := [d] }
  | _ => none }
def QueryoptNormalWrongFalsely : Prop := queryoptNormalRow.holds Tryz.pinned (OpenSpec.ofChange queryoptNormalWrong)

/-- 'quiltlaw35.QueryoptDisjoint': WHATEVER THE INPUT: true; the input reads as it did. -/
def queryoptDisjointSpec : ChangeSpec := { name := "queryoptDisjoint", fn := fun _ => fun
  | [d1, d2] => { results := [.lit (.bool true)], args := [d1, d2] }
  | _ => none }
def queryoptDisjointRow : OpenClaim := { program := "ytpoefbbfhebakaagreatdoor", sum := "d57dff49bea8550cf1bd23dffd0f661cacc5a33bef7ad76bc729745144a32ef9", func := "quilt/quiltlaw35.QueryoptDisjoint", spec := "queryoptDisjoint", inPlace := ["internal/bytealg.CountString", "internal/bytealg.IndexByteString", "internal/bytealg.IndexString"], unfollowed := true, recurses := true, named := ["unicode/utf8.first", "unicode/utf8.acceptRanges", "internal/bytealg.MaxLen"], loops := true, plainKeys := false, apart := false, laid := [("unicode/utf8.acceptRanges", laid_unicode_utf8_acceptRanges), ("unicode/utf8.first", laid_unicode_utf8_first)] }
def QueryoptDisjointSaid : Prop := queryoptDisjointRow.holds Tryz.pinned (OpenSpec.ofChange queryoptDisjointSpec)

/-- ITS FALSE NEIGHBOUR: 'it returns false'. Refute it at one input. -/
def queryoptDisjointWrong : ChangeSpec := { name := "queryoptDisjoint", fn := fun _ => fun
  | [d1, d2] => { results := [.lit (.bool false)], args := [d1, d2] }
  | _ => none }
def QueryoptDisjointWrongFalsely : Prop := queryoptDisjointRow.holds Tryz.pinned (OpenSpec.ofChange queryoptDisjointWrong)

/-- 'quiltlaw35.QueryoptInside': WHATEVER THE INPUT: true; the input reads as it did. -/
def queryoptInsideSpec : ChangeSpec := { name := "queryoptInside", fn := fun _ => fun
  | [d] => { results := [.lit (.bool true)], args := [d] }
  | _ => none }
def queryoptInsideRow : OpenClaim := { program := "ytpoefbbfhebakaagreatdoor", sum := "d57dff49bea8550cf1bd23dffd0f661cacc5a33bef7ad76bc729745144a32ef9", func := "quilt/quiltlaw35.QueryoptInside", spec := "queryoptInside", inPlace := ["internal/bytealg.CountString", "internal/bytealg.IndexByteString", "internal/bytealg.IndexString"], unfollowed := true, recurses := true, named := ["unicode/utf8.first", "unicode/utf8.acceptRanges", "internal/bytealg.MaxLen"], loops := true, plainKeys := false, apart := false, laid := [("unicode/utf8.acceptRanges", laid_unicode_utf8_acceptRanges), ("unicode/utf8.first", laid_unicode_utf8_first)] }
def QueryoptInsideSaid : Prop := queryoptInsideRow.holds Tryz.pinned (OpenSpec.ofChange queryoptInsideSpec)

/-- ITS FALSE NEIGHBOUR: 'it returns false'. Refute it at one input. -/
def queryoptInsideWrong : ChangeSpec := { name := "queryoptInside", fn := fun _ => fun
  | [d] => { results := [.lit (.bool false)], args := [d] }
  | _ => none }
def QueryoptInsideWrongFalsely : Prop := queryoptInsideRow.holds Tryz.pinned (OpenSpec.ofChange queryoptInsideWrong)

/-- 'quiltlaw35.QueryoptOptimize': WHATEVER THE INPUT: true; the input reads as it did. -/
def queryoptOptimizeSpec : ChangeSpec := { name := "queryoptOptimize", fn := fun _ => fun
  | [d] => { results := [.lit (.bool true)], args := [d] }
  | _ => none }
def queryoptOptimizeRow : OpenClaim := { program := "ytpoefbbfhebakaagreatdoor", sum := "d57dff49bea8550cf1bd23dffd0f661cacc5a33bef7ad76bc729745144a32ef9", func := "quilt/quiltlaw35.QueryoptOptimize", spec := "queryoptOptimize", inPlace := ["internal/bytealg.CountString", "internal/bytealg.IndexByteString", "internal/bytealg.IndexString"], unfollowed := true, recurses := true, named := ["unicode/utf8.first", "unicode/utf8.acceptRanges", "internal/bytealg.MaxLen"], loops := true, plainKeys := false, apart := false, laid := [("unicode/utf8.acceptRanges", laid_unicode_utf8_acceptRanges), ("unicode/utf8.first", laid_unicode_utf8_first)] }
def QueryoptOptimizeSaid : Prop := queryoptOptimizeRow.holds Tryz.pinned (OpenSpec.ofChange queryoptOptimizeSpec)

/-- ITS FALSE NEIGHBOUR: 'it returns false'. Refute it at one input. -/
def queryoptOptimizeWrong : ChangeSpec := { name := "queryoptOptimize", fn := fun _ => fun
  | [d] => { results := [.lit (.bool false)], args := [d] }
  | _ => none }
def QueryoptOptimizeWrongFalsely : Prop := queryoptOptimizeRow.holds Tryz.pinned (OpenSpec.ofChange queryoptOptimizeWrong)

/-- 'quiltlaw35.QueryoptCheaper': WHATEVER THE INPUT: true; the input reads as it did. -/
def queryoptCheaperSpec : ChangeSpec := { name := "queryoptCheaper", fn := fun _ => fun
  | [d] => { results := [.lit (.bool true)], args := [d] }
  | _ => none }
def queryoptCheaperRow : OpenClaim := { program := "ytpoefbbfhebakaagreatdoor", sum := "d57dff49bea8550cf1bd23dffd0f661cacc5a33bef7ad76bc729745144a32ef9", func := "quilt/quiltlaw35.QueryoptCheaper", spec := "queryoptCheaper", inPlace := ["internal/bytealg.CountString", "internal/bytealg.IndexByteString", "internal/bytealg.IndexString"], unfollowed := true, recurses := true, named := ["unicode/utf8.first", "unicode/utf8.acceptRanges", "internal/bytealg.MaxLen"], loops := true, plainKeys := false, apart := false, laid := [("unicode/utf8.acceptRanges", laid_unicode_utf8_acceptRanges), ("unicode/utf8.first", laid_unicode_utf8_first)] }
def QueryoptCheaperSaid : Prop := queryoptCheaperRow.holds Tryz.pinned (OpenSpec.ofChange queryoptCheaperSpec)

/-- ITS FALSE NEIGHBOUR: 'it returns false'. Refute it at one input. -/
def queryoptCheaperWrong : ChangeSpec := { name := "queryoptCheaper", fn := fun _ => fun
  | [d] => { results := [.lit (.bool false)], args := [d] }
  | _ => none }
def QueryoptCheaperWrongFalsely : Prop := queryoptCheaperRow.holds Tryz.pinned (OpenSpec.ofChange queryoptCheaperWrong)

/-- 'quiltlaw33.QuerylangCheck': WHATEVER THE INPUT: true; the input reads as it did. -/
def querylangCheckSpec : ChangeSpec := { name := "querylangCheck", fn := fun _ => fun
  | [d] => { results := [.lit (.bool true)], args := [d] }
  | _ => none }
def querylangCheckRow : OpenClaim := { program := "ytpoefbbfhebakaagreatdoor", sum := "d57dff49bea8550cf1bd23dffd0f661cacc5a33bef7ad76bc729745144a32ef9", func := "quilt/quiltlaw33.QuerylangCheck", spec := "querylangCheck", inPlace := ["internal/abi.NoEscape", "internal/bytealg.CountString", "internal/bytealg.IndexByteString", "internal/bytealg.IndexString", "sync/atomic.LoadUint32", "(*internal/sync.Mutex).Lock", "internal/race.Disable", "sync/atomic.CompareAndSwapInt32", "internal/race.Enable", "internal/race.Acquire", "(*internal/sync.Mutex).lockSlow", "internal/sync.runtime_canSpin", "internal/sync.runtime_doSpin", "internal/sync.throw", "internal/sync.runtime_nanotime", "internal/sync.runtime_SemacquireMutex", "sync/atomic.AddInt32", "(*internal/sync.Mutex).Unlock", "internal/race.ReleaseMerge", "(*internal/sync.Mutex).unlockSlow", "internal/sync.fatal", "internal/sync.runtime_Semrelease", "sync/atomic.StoreUint32"], unfollowed := true, recurses := true, named := ["quilt/querylang.words", "strconv.ErrSyntax", "strconv.ErrRange", "internal/strconv.uint64pow10", "math/bits.deBruijn32tab", "math/bits.deBruijn64tab", "unicode/utf8.first", "unicode/utf8.acceptRanges", "internal/bytealg.MaxLen"], loops := true, plainKeys := false, apart := false, laid := [("math/bits.deBruijn32tab", laid_math_bits_deBruijn32tab), ("math/bits.deBruijn64tab", laid_math_bits_deBruijn64tab), ("internal/strconv.uint64pow10", laid_internal_strconv_uint64pow10), ("unicode/utf8.acceptRanges", laid_unicode_utf8_acceptRanges), ("strconv.ErrRange", laid_strconv_ErrRange), ("strconv.ErrSyntax", laid_strconv_ErrSyntax), ("quilt/querylang.words", laid_quilt_querylang_words), ("unicode/utf8.first", laid_unicode_utf8_first)] }
def QuerylangCheckSaid : Prop := querylangCheckRow.holds Tryz.pinned (OpenSpec.ofChange querylangCheckSpec)

/-- ITS FALSE NEIGHBOUR: 'it returns false'. Refute it at one input. -/
def querylangCheckWrong : ChangeSpec := { name := "querylangCheck", fn := fun _ => fun
  | [d] => { results := [.lit (.bool false)], args := [d] }
  | _ => none }
def QuerylangCheckWrongFalsely : Prop := querylangCheckRow.holds Tryz.pinned (OpenSpec.ofChange querylangCheckWrong)

/-- 'quiltlaw33.QuerylangParse': WHATEVER THE INPUT: true; the input reads as it did. -/
def querylangParseSpec : ChangeSpec := { name := "querylangParse", fn := fun _ => fun
  | [d] => { results := [.lit (.bool true)], args := [d] }
  | _ => none }
def querylangParseRow : OpenClaim := { program := "ytpoefbbfhebakaagreatdoor", sum := "d57dff49bea8550cf1bd23dffd0f661cacc5a33bef7ad76bc729745144a32ef9", func := "quilt/quiltlaw33.QuerylangParse", spec := "querylangParse", inPlace := ["internal/abi.NoEscape", "internal/bytealg.CountString", "internal/bytealg.IndexByteString", "internal/bytealg.IndexString", "sync/atomic.LoadUint32", "(*internal/sync.Mutex).Lock", "internal/race.Disable", "sync/atomic.CompareAndSwapInt32", "internal/race.Enable", "internal/race.Acquire", "(*internal/sync.Mutex).lockSlow", "internal/sync.runtime_canSpin", "internal/sync.runtime_doSpin", "internal/sync.throw", "internal/sync.runtime_nanotime", "internal/sync.runtime_SemacquireMutex", "sync/atomic.AddInt32", "(*internal/sync.Mutex).Unlock", "internal/race.ReleaseMerge", "(*internal/sync.Mutex).unlockSlow", "internal/sync.fatal", "internal/sync.runtime_Semrelease", "sync/atomic.StoreUint32"], unfollowed := true, recurses := true, named := ["quilt/querylang.words", "strconv.ErrSyntax", "strconv.ErrRange", "internal/strconv.uint64pow10", "math/bits.deBruijn32tab", "math/bits.deBruijn64tab", "unicode/utf8.first", "unicode/utf8.acceptRanges", "internal/bytealg.MaxLen"], plainKeys := false, apart := false, laid := [("math/bits.deBruijn32tab", laid_math_bits_deBruijn32tab), ("math/bits.deBruijn64tab", laid_math_bits_deBruijn64tab), ("internal/strconv.uint64pow10", laid_internal_strconv_uint64pow10), ("unicode/utf8.acceptRanges", laid_unicode_utf8_acceptRanges), ("strconv.ErrRange", laid_strconv_ErrRange), ("strconv.ErrSyntax", laid_strconv_ErrSyntax), ("quilt/querylang.words", laid_quilt_querylang_words), ("unicode/utf8.first", laid_unicode_utf8_first)] }
def QuerylangParseSaid : Prop := querylangParseRow.holds Tryz.pinned (OpenSpec.ofChange querylangParseSpec)

/-- ITS FALSE NEIGHBOUR: 'it returns false'. Refute it at one input. -/
def querylangParseWrong : ChangeSpec := { name := "querylangParse", fn := fun _ => fun
  | [d] => { results := [.lit (.bool false)], args := [d] }
  | _ => none }
def QuerylangParseWrongFalsely : Prop := querylangParseRow.holds Tryz.pinned (OpenSpec.ofChange querylangParseWrong)

/-- 'quiltlaw33.QuerylangRoundTrip': WHATEVER THE INPUT: true; the input reads as it did. -/
def querylangRoundTripSpec : ChangeSpec := { name := "querylangRoundTrip", fn := fun _ => fun
  | [d] => { results := [.lit (.bool true)], args := [d] }
  | _ => none }
def querylangRoundTripRow : OpenClaim := { program := "ytpoefbbfhebakaagreatdoor", sum := "d57dff49bea8550cf1bd23dffd0f661cacc5a33bef7ad76bc729745144a32ef9", func := "quilt/quiltlaw33.QuerylangRoundTrip", spec := "querylangRoundTrip", inPlace := ["internal/abi.NoEscape", "internal/bytealg.CountString", "internal/bytealg.IndexByteString", "internal/bytealg.IndexString", "sync/atomic.LoadUint32", "(*internal/sync.Mutex).Lock", "internal/race.Disable", "sync/atomic.CompareAndSwapInt32", "internal/race.Enable", "internal/race.Acquire", "(*internal/sync.Mutex).lockSlow", "internal/sync.runtime_canSpin", "internal/sync.runtime_doSpin", "internal/sync.throw", "internal/sync.runtime_nanotime", "internal/sync.runtime_SemacquireMutex", "sync/atomic.AddInt32", "(*internal/sync.Mutex).Unlock", "internal/race.ReleaseMerge", "(*internal/sync.Mutex).unlockSlow", "internal/sync.fatal", "internal/sync.runtime_Semrelease", "sync/atomic.StoreUint32"], unfollowed := true, recurses := true, named := ["quilt/querylang.words", "strconv.ErrSyntax", "strconv.ErrRange", "internal/strconv.uint64pow10", "math/bits.deBruijn32tab", "math/bits.deBruijn64tab", "unicode/utf8.first", "unicode/utf8.acceptRanges", "internal/bytealg.MaxLen"], loops := true, plainKeys := false, apart := false, laid := [("math/bits.deBruijn32tab", laid_math_bits_deBruijn32tab), ("math/bits.deBruijn64tab", laid_math_bits_deBruijn64tab), ("internal/strconv.uint64pow10", laid_internal_strconv_uint64pow10), ("unicode/utf8.acceptRanges", laid_unicode_utf8_acceptRanges), ("strconv.ErrRange", laid_strconv_ErrRange), ("strconv.ErrSyntax", laid_strconv_ErrSyntax), ("quilt/querylang.words", laid_quilt_querylang_words), ("unicode/utf8.first", laid_unicode_utf8_first)] }
def QuerylangRoundTripSaid : Prop := querylangRoundTripRow.holds Tryz.pinned (OpenSpec.ofChange querylangRoundTripSpec)

/-- ITS FALSE NEIGHBOUR: 'it returns false'. Refute it at one input. -/
def querylangRoundTripWrong : ChangeSpec := { name := "querylangRoundTrip", fn := fun _ => fun
  | [d] => { results := [.lit (.bool false)], args := [d] }
  | _ => none }
def QuerylangRoundTripWrongFalsely : Prop := querylangRoundTripRow.holds Tryz.pinned (OpenSpec.ofChange querylangRoundTripWrong)

/-- 'quiltlaw33.QuerylangCanonical': WHATEVER THE INPUT: true; the input reads as it did. -/
def querylangCanonicalSpec : ChangeSpec := { name := "querylangCanonical", fn := fun _ => fun
  | [d] => { results := [.lit (.bool true)], args := [d] }
  | _ => none }
def querylangCanonicalRow : OpenClaim := { program := "ytpoefbbfhebakaagreatdoor", sum := "d57dff49bea8550cf1bd23dffd0f661cacc5a33bef7ad76bc729745144a32ef9", func := "quilt/quiltlaw33.QuerylangCanonical", spec := "querylangCanonical", inPlace := ["internal/abi.NoEscape", "internal/bytealg.CountString", "internal/bytealg.IndexByteString", "internal/bytealg.IndexString", "sync/atomic.LoadUint32", "(*internal/sync.Mutex).Lock", "internal/race.Disable", "sync/atomic.CompareAndSwapInt32", "internal/race.Enable", "internal/race.Acquire", "(*internal/sync.Mutex).lockSlow", "internal/sync.runtime_canSpin", "internal/sync.runtime_doSpin", "internal/sync.throw", "internal/sync.runtime_nanotime", "internal/sync.runtime_SemacquireMutex", "sync/atomic.AddInt32", "(*internal/sync.Mutex).Unlock", "internal/race.ReleaseMerge", "(*internal/sync.Mutex).unlockSlow", "internal/sync.fatal", "internal/sync.runtime_Semrelease", "sync/atomic.StoreUint32"], unfollowed := true, recurses := true, named := ["quilt/querylang.words", "strconv.ErrSyntax", "strconv.ErrRange", "internal/strconv.uint64pow10", "math/bits.deBruijn32tab", "math/bits.deBruijn64tab", "unicode/utf8.first", "unicode/utf8.acceptRanges", "internal/bytealg.MaxLen"], plainKeys := false, apart := false, laid := [("math/bits.deBruijn32tab", laid_math_bits_deBruijn32tab), ("math/bits.deBruijn64tab", laid_math_bits_deBruijn64tab), ("internal/strconv.uint64pow10", laid_internal_strconv_uint64pow10), ("unicode/utf8.acceptRanges", laid_unicode_utf8_acceptRanges), ("strconv.ErrRange", laid_strconv_ErrRange), ("strconv.ErrSyntax", laid_strconv_ErrSyntax), ("quilt/querylang.words", laid_quilt_querylang_words), ("unicode/utf8.first", laid_unicode_utf8_first)] }
def QuerylangCanonicalSaid : Prop := querylangCanonicalRow.holds Tryz.pinned (OpenSpec.ofChange querylangCanonicalSpec)

/-- ITS FALSE NEIGHBOUR: 'it returns false'. Refute it at one input. -/
def querylangCanonicalWrong : ChangeSpec := { name := "querylangCanonical", fn := fun _ => fun
  | [d] => { results := [.lit (.bool false)], args := [d] }
  | _ => none }
def QuerylangCanonicalWrongFalsely : Prop := querylangCanonicalRow.holds Tryz.pinned (OpenSpec.ofChange querylangCanonicalWrong)

/-- 'quiltlaw33.QuerylangLayout': WHATEVER THE INPUT: true; the input reads as it did. -/
def querylangLayoutSpec : ChangeSpec := { name := "querylangLayout", fn := fun _ => fun
  | [d1, d2, d3] => { results := [.lit (.bool true)], args := [d1, d2, d3] }
  | _ => none }
def querylangLayoutRow : OpenClaim := { program := "ytpoefbbfhebakaagreatdoor", sum := "d57dff49bea8550cf1bd23dffd0f661cacc5a33bef7ad76bc729745144a32ef9", func := "quilt/quiltlaw33.QuerylangLayout", spec := "querylangLayout", inPlace := ["internal/abi.NoEscape", "internal/bytealg.CountString", "internal/bytealg.IndexByteString", "internal/bytealg.IndexString", "sync/atomic.LoadUint32", "(*internal/sync.Mutex).Lock", "internal/race.Disable", "sync/atomic.CompareAndSwapInt32", "internal/race.Enable", "internal/race.Acquire", "(*internal/sync.Mutex).lockSlow", "internal/sync.runtime_canSpin", "internal/sync.runtime_doSpin", "internal/sync.throw", "internal/sync.runtime_nanotime", "internal/sync.runtime_SemacquireMutex", "sync/atomic.AddInt32", "(*internal/sync.Mutex).Unlock", "internal/race.ReleaseMerge", "(*internal/sync.Mutex).unlockSlow", "internal/sync.fatal", "internal/sync.runtime_Semrelease", "sync/atomic.StoreUint32"], unfollowed := true, recurses := true, named := ["quilt/querylang.words", "strconv.ErrSyntax", "strconv.ErrRange", "internal/strconv.uint64pow10", "math/bits.deBruijn32tab", "math/bits.deBruijn64tab", "unicode/utf8.first", "unicode/utf8.acceptRanges", "internal/bytealg.MaxLen"], plainKeys := false, apart := false, laid := [("math/bits.deBruijn32tab", laid_math_bits_deBruijn32tab), ("math/bits.deBruijn64tab", laid_math_bits_deBruijn64tab), ("internal/strconv.uint64pow10", laid_internal_strconv_uint64pow10), ("unicode/utf8.acceptRanges", laid_unicode_utf8_acceptRanges), ("strconv.ErrRange", laid_strconv_ErrRange), ("strconv.ErrSyntax", laid_strconv_ErrSyntax), ("quilt/querylang.words", laid_quilt_querylang_words), ("unicode/utf8.first", laid_unicode_utf8_first)] }
def QuerylangLayoutSaid : Prop := querylangLayoutRow.holds Tryz.pinned (OpenSpec.ofChange querylangLayoutSpec)

/-- ITS FALSE NEIGHBOUR: 'it returns false'. Refute it at one input. -/
def querylangLayoutWrong : ChangeSpec := { name := "querylangLayout", fn := fun _ => fun
  | [d1, d2, d3] => { results := [.lit (.bool false)], args := [d1, d2, d3] }
  | _ => none }
def QuerylangLayoutWrongFalsely : Prop := querylangLayoutRow.holds Tryz.pinned (OpenSpec.ofChange querylangLayoutWrong)

/-- 'quiltlaw33.QuerylangBinding': WHATEVER THE INPUT: true; the input reads as it did. -/
def querylangBindingSpec : ChangeSpec := { name := "querylangBinding", fn := fun _ => fun
  | [d1, d2] => { results := [.lit (.bool true)], args := [d1, d2] }
  | _ => none }
def querylangBindingRow : OpenClaim := { program := "ytpoefbbfhebakaagreatdoor", sum := "d57dff49bea8550cf1bd23dffd0f661cacc5a33bef7ad76bc729745144a32ef9", func := "quilt/quiltlaw33.QuerylangBinding", spec := "querylangBinding", inPlace := ["internal/abi.NoEscape", "internal/bytealg.CountString", "internal/bytealg.IndexByteString", "internal/bytealg.IndexString", "sync/atomic.LoadUint32", "(*internal/sync.Mutex).Lock", "internal/race.Disable", "sync/atomic.CompareAndSwapInt32", "internal/race.Enable", "internal/race.Acquire", "(*internal/sync.Mutex).lockSlow", "internal/sync.runtime_canSpin", "internal/sync.runtime_doSpin", "internal/sync.throw", "internal/sync.runtime_nanotime", "internal/sync.runtime_SemacquireMutex", "sync/atomic.AddInt32", "(*internal/sync.Mutex).Unlock", "internal/race.ReleaseMerge", "(*internal/sync.Mutex).unlockSlow", "internal/sync.fatal", "internal/sync.runtime_Semrelease", "sync/atomic.StoreUint32"], unfollowed := true, recurses := true, named := ["quilt/querylang.words", "strconv.ErrSyntax", "strconv.ErrRange", "internal/strconv.uint64pow10", "math/bits.deBruijn32tab", "math/bits.deBruijn64tab", "unicode/utf8.first", "unicode/utf8.acceptRanges", "internal/bytealg.MaxLen"], loops := true, plainKeys := false, apart := false, laid := [("math/bits.deBruijn32tab", laid_math_bits_deBruijn32tab), ("math/bits.deBruijn64tab", laid_math_bits_deBruijn64tab), ("internal/strconv.uint64pow10", laid_internal_strconv_uint64pow10), ("unicode/utf8.acceptRanges", laid_unicode_utf8_acceptRanges), ("strconv.ErrRange", laid_strconv_ErrRange), ("strconv.ErrSyntax", laid_strconv_ErrSyntax), ("quilt/querylang.words", laid_quilt_querylang_words), ("unicode/utf8.first", laid_unicode_utf8_first)] }
def QuerylangBindingSaid : Prop := querylangBindingRow.holds Tryz.pinned (OpenSpec.ofChange querylangBindingSpec)

/-- ITS FALSE NEIGHBOUR: 'it returns false'. Refute it at one input. -/
def querylangBindingWrong : ChangeSpec := { name := "querylangBinding", fn := fun _ => fun
  | [d1, d2] => { results := [.lit (.bool false)], args := [d1, d2] }
  | _ => none }
def QuerylangBindingWrongFalsely : Prop := querylangBindingRow.holds Tryz.pinned (OpenSpec.ofChange querylangBindingWrong)

/-- 'quiltlaw33.QuerylangErrors': WHATEVER THE INPUT: true; the input reads as it did. -/
def querylangErrorsSpec : ChangeSpec := { name := "querylangErrors", fn := fun _ => fun
  | [d] => { results := [.lit (.bool true)], args := [d] }
  | _ => none }
def querylangErrorsRow : OpenClaim := { program := "ytpoefbbfhebakaagreatdoor", sum := "d57dff49bea8550cf1bd23dffd0f661cacc5a33bef7ad76bc729745144a32ef9", func := "quilt/quiltlaw33.QuerylangErrors", spec := "querylangErrors", inPlace := ["internal/abi.NoEscape", "internal/bytealg.CountString", "internal/bytealg.IndexByteString", "internal/bytealg.IndexString", "sync/atomic.LoadUint32", "(*internal/sync.Mutex).Lock", "internal/race.Disable", "sync/atomic.CompareAndSwapInt32", "internal/race.Enable", "internal/race.Acquire", "(*internal/sync.Mutex).lockSlow", "internal/sync.runtime_canSpin", "internal/sync.runtime_doSpin", "internal/sync.throw", "internal/sync.runtime_nanotime", "internal/sync.runtime_SemacquireMutex", "sync/atomic.AddInt32", "(*internal/sync.Mutex).Unlock", "internal/race.ReleaseMerge", "(*internal/sync.Mutex).unlockSlow", "internal/sync.fatal", "internal/sync.runtime_Semrelease", "sync/atomic.StoreUint32"], unfollowed := true, recurses := true, named := ["quilt/querylang.words", "strconv.ErrSyntax", "strconv.ErrRange", "internal/strconv.uint64pow10", "math/bits.deBruijn32tab", "math/bits.deBruijn64tab", "unicode/utf8.first", "unicode/utf8.acceptRanges", "internal/bytealg.MaxLen"], plainKeys := false, apart := false, laid := [("math/bits.deBruijn32tab", laid_math_bits_deBruijn32tab), ("math/bits.deBruijn64tab", laid_math_bits_deBruijn64tab), ("internal/strconv.uint64pow10", laid_internal_strconv_uint64pow10), ("unicode/utf8.acceptRanges", laid_unicode_utf8_acceptRanges), ("strconv.ErrRange", laid_strconv_ErrRange), ("strconv.ErrSyntax", laid_strconv_ErrSyntax), ("quilt/querylang.words", laid_quilt_querylang_words), ("unicode/utf8.first", laid_unicode_utf8_first)] }
def QuerylangErrorsSaid : Prop := querylangErrorsRow.holds Tryz.pinned (OpenSpec.ofChange querylangErrorsSpec)

/-- ITS FALSE NEIGHBOUR: 'it returns false'. Refute it at one input. -/
def querylangErrorsWrong : ChangeSpec := { name := "querylangErrors", fn := fun _ => fun
  | [d] => { results := [.lit (.bool false)], args := [d] }
  | _ => none }
def QuerylangErrorsWrongFalsely : Prop := querylangErrorsRow.holds Tryz.pinned (OpenSpec.ofChange querylangErrorsWrong)

/- THE SECOND FORM. 'bulk': how many values and letters a reading holds, each counted each time it is reached (what is shared counts as often as it is met; a slice's spare places count too). A statement '..UptoSaid' is the law's where the arguments, and the package variables that the reading takes, are together of bulk at most 1048576: NARROWER than '..Said'. Prove '..Said' where nothing that the law and all that it calls make is longer than what came in: it says more and counts as full. Else prove '..UptoSaid'. A law counts once. -/
mutual
def uptoBulk {H : Type} : DataW H → Nat
  | .lit (.string bytes) => bytes.length + 1
  | .lit _ => 1
  | .nil => 1
  | .ptr d => uptoBulk d + 1
  | .slice elems spare => uptoBulkAll elems + uptoBulkAll spare + 1
  | .agg parts => uptoBulkAll parts + 1
  | .iface _ d => uptoBulk d + 1
  | .map entries => uptoBulkEntries entries + 1
  | .held _ => 1
def uptoBulkAll {H : Type} : List (DataW H) → Nat
  | [] => 0
  | d :: r => uptoBulk d + uptoBulkAll r
def uptoBulkEntries {H : Type} : List (Lit × DataW H) → Nat
  | [] => 0
  | x :: r => uptoBulkEntry x + uptoBulkEntries r
def uptoBulkEntry {H : Type} : Lit × DataW H → Nat
  | (.string bytes, d) => bytes.length + uptoBulk d + 1
  | (_, d) => uptoBulk d + 1
 end
def uptoSmall : (H : Type) → List (DataW H) → Bool := fun _ ds => decide (uptoBulkAll ds ≤ 1048576)
def OpenSpec.upto (s : _root_.Go.ChangeSpec) : _root_.Go.OpenSpec := { _root_.Go.OpenSpec.ofChange s with cond := some uptoSmall }

/-- 'quiltlaw35.QueryoptNormal', WHERE WHAT IT READS IS OF BULK AT MOST 1048576: true; the input reads as it did. -/
def queryoptNormalUptoRow : OpenClaim := { program := "ytpoefbbfhebakaagreatdoor", sum := "d57dff49bea8550cf1bd23dffd0f661cacc5a33bef7ad76bc729745144a32ef9", func := "quilt/quiltlaw35.QueryoptNormal", spec := "queryoptNormal", inPlace := ["internal/bytealg.CountString", "internal/bytealg.IndexByteString", "internal/bytealg.IndexString"], unfollowed := true, recurses := true, named := ["unicode/utf8.first", "unicode/utf8.acceptRanges", "internal/bytealg.MaxLen"], loops := true, plainKeys := false, apart := false, laid := [("unicode/utf8.acceptRanges", laid_unicode_utf8_acceptRanges), ("unicode/utf8.first", laid_unicode_utf8_first)], narrowed := true }
def QueryoptNormalUptoSaid : Prop := queryoptNormalUptoRow.holds Tryz.pinned (OpenSpec.upto queryoptNormalSpec)

/-- 'quiltlaw35.QueryoptDisjoint', WHERE WHAT IT READS IS OF BULK AT MOST 1048576: true; the input reads as it did. -/
def queryoptDisjointUptoRow : OpenClaim := { program := "ytpoefbbfhebakaagreatdoor", sum := "d57dff49bea8550cf1bd23dffd0f661cacc5a33bef7ad76bc729745144a32ef9", func := "quilt/quiltlaw35.QueryoptDisjoint", spec := "queryoptDisjoint", inPlace := ["internal/bytealg.CountString", "internal/bytealg.IndexByteString", "internal/bytealg.IndexString"], unfollowed := true, recurses := true, named := ["unicode/utf8.first", "unicode/utf8.acceptRanges", "internal/bytealg.MaxLen"], loops := true, plainKeys := false, apart := false, laid := [("unicode/utf8.acceptRanges", laid_unicode_utf8_acceptRanges), ("unicode/utf8.first", laid_unicode_utf8_first)], narrowed := true }
def QueryoptDisjointUptoSaid : Prop := queryoptDisjointUptoRow.holds Tryz.pinned (OpenSpec.upto queryoptDisjointSpec)

/-- 'quiltlaw35.QueryoptInside', WHERE WHAT IT READS IS OF BULK AT MOST 1048576: true; the input reads as it did. -/
def queryoptInsideUptoRow : OpenClaim := { program := "ytpoefbbfhebakaagreatdoor", sum := "d57dff49bea8550cf1bd23dffd0f661cacc5a33bef7ad76bc729745144a32ef9", func := "quilt/quiltlaw35.QueryoptInside", spec := "queryoptInside", inPlace := ["internal/bytealg.CountString", "internal/bytealg.IndexByteString", "internal/bytealg.IndexString"], unfollowed := true, recurses := true, named := ["unicode/utf8.first", "unicode/utf8.acceptRanges", "internal/bytealg.MaxLen"], loops := true, plainKeys := false, apart := false, laid := [("unicode/utf8.acceptRanges", laid_unicode_utf8_acceptRanges), ("unicode/utf8.first", laid_unicode_utf8_first)], narrowed := true }
def QueryoptInsideUptoSaid : Prop := queryoptInsideUptoRow.holds Tryz.pinned (OpenSpec.upto queryoptInsideSpec)

/-- 'quiltlaw35.QueryoptOptimize', WHERE WHAT IT READS IS OF BULK AT MOST 1048576: true; the input reads as it did. -/
def queryoptOptimizeUptoRow : OpenClaim := { program := "ytpoefbbfhebakaagreatdoor", sum := "d57dff49bea8550cf1bd23dffd0f661cacc5a33bef7ad76bc729745144a32ef9", func := "quilt/quiltlaw35.QueryoptOptimize", spec := "queryoptOptimize", inPlace := ["internal/bytealg.CountString", "internal/bytealg.IndexByteString", "internal/bytealg.IndexString"], unfollowed := true, recurses := true, named := ["unicode/utf8.first", "unicode/utf8.acceptRanges", "internal/bytealg.MaxLen"], loops := true, plainKeys := false, apart := false, laid := [("unicode/utf8.acceptRanges", laid_unicode_utf8_acceptRanges), ("unicode/utf8.first", laid_unicode_utf8_first)], narrowed := true }
def QueryoptOptimizeUptoSaid : Prop := queryoptOptimizeUptoRow.holds Tryz.pinned (OpenSpec.upto queryoptOptimizeSpec)

/-- 'quiltlaw35.QueryoptCheaper', WHERE WHAT IT READS IS OF BULK AT MOST 1048576: true; the input reads as it did. -/
def queryoptCheaperUptoRow : OpenClaim := { program := "ytpoefbbfhebakaagreatdoor", sum := "d57dff49bea8550cf1bd23dffd0f661cacc5a33bef7ad76bc729745144a32ef9", func := "quilt/quiltlaw35.QueryoptCheaper", spec := "queryoptCheaper", inPlace := ["internal/bytealg.CountString", "internal/bytealg.IndexByteString", "internal/bytealg.IndexString"], unfollowed := true, recurses := true, named := ["unicode/utf8.first", "unicode/utf8.acceptRanges", "internal/bytealg.MaxLen"], loops := true, plainKeys := false, apart := false, laid := [("unicode/utf8.acceptRanges", laid_unicode_utf8_acceptRanges), ("unicode/utf8.first", laid_unicode_utf8_first)], narrowed := true }
def QueryoptCheaperUptoSaid : Prop := queryoptCheaperUptoRow.holds Tryz.pinned (OpenSpec.upto queryoptCheaperSpec)

/-- 'quiltlaw33.QuerylangCheck', WHERE WHAT IT READS IS OF BULK AT MOST 1048576: true; the input reads as it did. -/
def querylangCheckUptoRow : OpenClaim := { program := "ytpoefbbfhebakaagreatdoor", sum := "d57dff49bea8550cf1bd23dffd0f661cacc5a33bef7ad76bc729745144a32ef9", func := "quilt/quiltlaw33.QuerylangCheck", spec := "querylangCheck", inPlace := ["internal/abi.NoEscape", "internal/bytealg.CountString", "internal/bytealg.IndexByteString", "internal/bytealg.IndexString", "sync/atomic.LoadUint32", "(*internal/sync.Mutex).Lock", "internal/race.Disable", "sync/atomic.CompareAndSwapInt32", "internal/race.Enable", "internal/race.Acquire", "(*internal/sync.Mutex).lockSlow", "internal/sync.runtime_canSpin", "internal/sync.runtime_doSpin", "internal/sync.throw", "internal/sync.runtime_nanotime", "internal/sync.runtime_SemacquireMutex", "sync/atomic.AddInt32", "(*internal/sync.Mutex).Unlock", "internal/race.ReleaseMerge", "(*internal/sync.Mutex).unlockSlow", "internal/sync.fatal", "internal/sync.runtime_Semrelease", "sync/atomic.StoreUint32"], unfollowed := true, recurses := true, named := ["quilt/querylang.words", "strconv.ErrSyntax", "strconv.ErrRange", "internal/strconv.uint64pow10", "math/bits.deBruijn32tab", "math/bits.deBruijn64tab", "unicode/utf8.first", "unicode/utf8.acceptRanges", "internal/bytealg.MaxLen"], loops := true, plainKeys := false, apart := false, laid := [("math/bits.deBruijn32tab", laid_math_bits_deBruijn32tab), ("math/bits.deBruijn64tab", laid_math_bits_deBruijn64tab), ("internal/strconv.uint64pow10", laid_internal_strconv_uint64pow10), ("unicode/utf8.acceptRanges", laid_unicode_utf8_acceptRanges), ("strconv.ErrRange", laid_strconv_ErrRange), ("strconv.ErrSyntax", laid_strconv_ErrSyntax), ("quilt/querylang.words", laid_quilt_querylang_words), ("unicode/utf8.first", laid_unicode_utf8_first)], narrowed := true }
def QuerylangCheckUptoSaid : Prop := querylangCheckUptoRow.holds Tryz.pinned (OpenSpec.upto querylangCheckSpec)

/-- 'quiltlaw33.QuerylangParse', WHERE WHAT IT READS IS OF BULK AT MOST 1048576: true; the input reads as it did. -/
def querylangParseUptoRow : OpenClaim := { program := "ytpoefbbfhebakaagreatdoor", sum := "d57dff49bea8550cf1bd23dffd0f661cacc5a33bef7ad76bc729745144a32ef9", func := "quilt/quiltlaw33.QuerylangParse", spec := "querylangParse", inPlace := ["internal/abi.NoEscape", "internal/bytealg.CountString", "internal/bytealg.IndexByteString", "internal/bytealg.IndexString", "sync/atomic.LoadUint32", "(*internal/sync.Mutex).Lock", "internal/race.Disable", "sync/atomic.CompareAndSwapInt32", "internal/race.Enable", "internal/race.Acquire", "(*internal/sync.Mutex).lockSlow", "internal/sync.runtime_canSpin", "internal/sync.runtime_doSpin", "internal/sync.throw", "internal/sync.runtime_nanotime", "internal/sync.runtime_SemacquireMutex", "sync/atomic.AddInt32", "(*internal/sync.Mutex).Unlock", "internal/race.ReleaseMerge", "(*internal/sync.Mutex).unlockSlow", "internal/sync.fatal", "internal/sync.runtime_Semrelease", "sync/atomic.StoreUint32"], unfollowed := true, recurses := true, named := ["quilt/querylang.words", "strconv.ErrSyntax", "strconv.ErrRange", "internal/strconv.uint64pow10", "math/bits.deBruijn32tab", "math/bits.deBruijn64tab", "unicode/utf8.first", "unicode/utf8.acceptRanges", "internal/bytealg.MaxLen"], plainKeys := false, apart := false, laid := [("math/bits.deBruijn32tab", laid_math_bits_deBruijn32tab), ("math/bits.deBruijn64tab", laid_math_bits_deBruijn64tab), ("internal/strconv.uint64pow10", laid_internal_strconv_uint64pow10), ("unicode/utf8.acceptRanges", laid_unicode_utf8_acceptRanges), ("strconv.ErrRange", laid_strconv_ErrRange), ("strconv.ErrSyntax", laid_strconv_ErrSyntax), ("quilt/querylang.words", laid_quilt_querylang_words), ("unicode/utf8.first", laid_unicode_utf8_first)], narrowed := true }
def QuerylangParseUptoSaid : Prop := querylangParseUptoRow.holds Tryz.pinned (OpenSpec.upto querylangParseSpec)

/-- 'quiltlaw33.QuerylangRoundTrip', WHERE WHAT IT READS IS OF BULK AT MOST 1048576: true; the input reads as it did. -/
def querylangRoundTripUptoRow : OpenClaim := { program := "ytpoefbbfhebakaagreatdoor", sum := "d57dff49bea8550cf1bd23dffd0f661cacc5a33bef7ad76bc729745144a32ef9", func := "quilt/quiltlaw33.QuerylangRoundTrip", spec := "querylangRoundTrip", inPlace := ["internal/abi.NoEscape", "internal/bytealg.CountString", "internal/bytealg.IndexByteString", "internal/bytealg.IndexString", "sync/atomic.LoadUint32", "(*internal/sync.Mutex).Lock", "internal/race.Disable", "sync/atomic.CompareAndSwapInt32", "internal/race.Enable", "internal/race.Acquire", "(*internal/sync.Mutex).lockSlow", "internal/sync.runtime_canSpin", "internal/sync.runtime_doSpin", "internal/sync.throw", "internal/sync.runtime_nanotime", "internal/sync.runtime_SemacquireMutex", "sync/atomic.AddInt32", "(*internal/sync.Mutex).Unlock", "internal/race.ReleaseMerge", "(*internal/sync.Mutex).unlockSlow", "internal/sync.fatal", "internal/sync.runtime_Semrelease", "sync/atomic.StoreUint32"], unfollowed := true, recurses := true, named := ["quilt/querylang.words", "strconv.ErrSyntax", "strconv.ErrRange", "internal/strconv.uint64pow10", "math/bits.deBruijn32tab", "math/bits.deBruijn64tab", "unicode/utf8.first", "unicode/utf8.acceptRanges", "internal/bytealg.MaxLen"], loops := true, plainKeys := false, apart := false, laid := [("math/bits.deBruijn32tab", laid_math_bits_deBruijn32tab), ("math/bits.deBruijn64tab", laid_math_bits_deBruijn64tab), ("internal/strconv.uint64pow10", laid_internal_strconv_uint64pow10), ("unicode/utf8.acceptRanges", laid_unicode_utf8_acceptRanges), ("strconv.ErrRange", laid_strconv_ErrRange), ("strconv.ErrSyntax", laid_strconv_ErrSyntax), ("quilt/querylang.words", laid_quilt_querylang_words), ("unicode/utf8.first", laid_unicode_utf8_first)], narrowed := true }
def QuerylangRoundTripUptoSaid : Prop := querylangRoundTripUptoRow.holds Tryz.pinned (OpenSpec.upto querylangRoundTripSpec)

/-- 'quiltlaw33.QuerylangCanonical', WHERE WHAT IT READS IS OF BULK AT MOST 1048576: true; the input reads as it did. -/
def querylangCanonicalUptoRow : OpenClaim := { program := "ytpoefbbfhebakaagreatdoor", sum := "d57dff49bea8550cf1bd23dffd0f661cacc5a33bef7ad76bc729745144a32ef9", func := "quilt/quiltlaw33.QuerylangCanonical", spec := "querylangCanonical", inPlace := ["internal/abi.NoEscape", "internal/bytealg.CountString", "internal/bytealg.IndexByteString", "internal/bytealg.IndexString", "sync/atomic.LoadUint32", "(*internal/sync.Mutex).Lock", "internal/race.Disable", "sync/atomic.CompareAndSwapInt32", "internal/race.Enable", "internal/race.Acquire", "(*internal/sync.Mutex).lockSlow", "internal/sync.runtime_canSpin", "internal/sync.runtime_doSpin", "internal/sync.throw", "internal/sync.runtime_nanotime", "internal/sync.runtime_SemacquireMutex", "sync/atomic.AddInt32", "(*internal/sync.Mutex).Unlock", "internal/race.ReleaseMerge", "(*internal/sync.Mutex).unlockSlow", "internal/sync.fatal", "internal/sync.runtime_Semrelease", "sync/atomic.StoreUint32"], unfollowed := true, recurses := true, named := ["quilt/querylang.words", "strconv.ErrSyntax", "strconv.ErrRange", "internal/strconv.uint64pow10", "math/bits.deBruijn32tab", "math/bits.deBruijn64tab", "unicode/utf8.first", "unicode/utf8.acceptRanges", "internal/bytealg.MaxLen"], plainKeys := false, apart := false, laid := [("math/bits.deBruijn32tab", laid_math_bits_deBruijn32tab), ("math/bits.deBruijn64tab", laid_math_bits_deBruijn64tab), ("internal/strconv.uint64pow10", laid_internal_strconv_uint64pow10), ("unicode/utf8.acceptRanges", laid_unicode_utf8_acceptRanges), ("strconv.ErrRange", laid_strconv_ErrRange), ("strconv.ErrSyntax", laid_strconv_ErrSyntax), ("quilt/querylang.words", laid_quilt_querylang_words), ("unicode/utf8.first", laid_unicode_utf8_first)], narrowed := true }
def QuerylangCanonicalUptoSaid : Prop := querylangCanonicalUptoRow.holds Tryz.pinned (OpenSpec.upto querylangCanonicalSpec)

/-- 'quiltlaw33.QuerylangLayout', WHERE WHAT IT READS IS OF BULK AT MOST 1048576: true; the input reads as it did. -/
def querylangLayoutUptoRow : OpenClaim := { program := "ytpoefbbfhebakaagreatdoor", sum := "d57dff49bea8550cf1bd23dffd0f661cacc5a33bef7ad76bc729745144a32ef9", func := "quilt/quiltlaw33.QuerylangLayout", spec := "querylangLayout", inPlace := ["internal/abi.NoEscape", "internal/bytealg.CountString", "internal/bytealg.IndexByteString", "internal/bytealg.IndexString", "sync/atomic.LoadUint32", "(*internal/sync.Mutex).Lock", "internal/race.Disable", "sync/atomic.CompareAndSwapInt32", "internal/race.Enable", "internal/race.Acquire", "(*internal/sync.Mutex).lockSlow", "internal/sync.runtime_canSpin", "internal/sync.runtime_doSpin", "internal/sync.throw", "internal/sync.runtime_nanotime", "internal/sync.runtime_SemacquireMutex", "sync/atomic.AddInt32", "(*internal/sync.Mutex).Unlock", "internal/race.ReleaseMerge", "(*internal/sync.Mutex).unlockSlow", "internal/sync.fatal", "internal/sync.runtime_Semrelease", "sync/atomic.StoreUint32"], unfollowed := true, recurses := true, named := ["quilt/querylang.words", "strconv.ErrSyntax", "strconv.ErrRange", "internal/strconv.uint64pow10", "math/bits.deBruijn32tab", "math/bits.deBruijn64tab", "unicode/utf8.first", "unicode/utf8.acceptRanges", "internal/bytealg.MaxLen"], plainKeys := false, apart := false, laid := [("math/bits.deBruijn32tab", laid_math_bits_deBruijn32tab), ("math/bits.deBruijn64tab", laid_math_bits_deBruijn64tab), ("internal/strconv.uint64pow10", laid_internal_strconv_uint64pow10), ("unicode/utf8.acceptRanges", laid_unicode_utf8_acceptRanges), ("strconv.ErrRange", laid_strconv_ErrRange), ("strconv.ErrSyntax", laid_strconv_ErrSyntax), ("quilt/querylang.words", laid_quilt_querylang_words), ("unicode/utf8.first", laid_unicode_utf8_first)], narrowed := true }
def QuerylangLayoutUptoSaid : Prop := querylangLayoutUptoRow.holds Tryz.pinned (OpenSpec.upto querylangLayoutSpec)

/-- 'quiltlaw33.QuerylangBinding', WHERE WHAT IT READS IS OF BULK AT MOST 1048576: true; the input reads as it did. -/
def querylangBindingUptoRow : OpenClaim := { program := "ytpoefbbfhebakaagreatdoor", sum := "d57dff49bea8550cf1bd23dffd0f661cacc5a33bef7ad76bc729745144a32ef9", func := "quilt/quiltlaw33.QuerylangBinding", spec := "querylangBinding", inPlace := ["internal/abi.NoEscape", "internal/bytealg.CountString", "internal/bytealg.IndexByteString", "internal/bytealg.IndexString", "sync/atomic.LoadUint32", "(*internal/sync.Mutex).Lock", "internal/race.Disable", "sync/atomic.CompareAndSwapInt32", "internal/race.Enable", "internal/race.Acquire", "(*internal/sync.Mutex).lockSlow", "internal/sync.runtime_canSpin", "internal/sync.runtime_doSpin", "internal/sync.throw", "internal/sync.runtime_nanotime", "internal/sync.runtime_SemacquireMutex", "sync/atomic.AddInt32", "(*internal/sync.Mutex).Unlock", "internal/race.ReleaseMerge", "(*internal/sync.Mutex).unlockSlow", "internal/sync.fatal", "internal/sync.runtime_Semrelease", "sync/atomic.StoreUint32"], unfollowed := true, recurses := true, named := ["quilt/querylang.words", "strconv.ErrSyntax", "strconv.ErrRange", "internal/strconv.uint64pow10", "math/bits.deBruijn32tab", "math/bits.deBruijn64tab", "unicode/utf8.first", "unicode/utf8.acceptRanges", "internal/bytealg.MaxLen"], loops := true, plainKeys := false, apart := false, laid := [("math/bits.deBruijn32tab", laid_math_bits_deBruijn32tab), ("math/bits.deBruijn64tab", laid_math_bits_deBruijn64tab), ("internal/strconv.uint64pow10", laid_internal_strconv_uint64pow10), ("unicode/utf8.acceptRanges", laid_unicode_utf8_acceptRanges), ("strconv.ErrRange", laid_strconv_ErrRange), ("strconv.ErrSyntax", laid_strconv_ErrSyntax), ("quilt/querylang.words", laid_quilt_querylang_words), ("unicode/utf8.first", laid_unicode_utf8_first)], narrowed := true }
def QuerylangBindingUptoSaid : Prop := querylangBindingUptoRow.holds Tryz.pinned (OpenSpec.upto querylangBindingSpec)

/-- 'quiltlaw33.QuerylangErrors', WHERE WHAT IT READS IS OF BULK AT MOST 1048576: true; the input reads as it did. -/
def querylangErrorsUptoRow : OpenClaim := { program := "ytpoefbbfhebakaagreatdoor", sum := "d57dff49bea8550cf1bd23dffd0f661cacc5a33bef7ad76bc729745144a32ef9", func := "quilt/quiltlaw33.QuerylangErrors", spec := "querylangErrors", inPlace := ["internal/abi.NoEscape", "internal/bytealg.CountString", "internal/bytealg.IndexByteString", "internal/bytealg.IndexString", "sync/atomic.LoadUint32", "(*internal/sync.Mutex).Lock", "internal/race.Disable", "sync/atomic.CompareAndSwapInt32", "internal/race.Enable", "internal/race.Acquire", "(*internal/sync.Mutex).lockSlow", "internal/sync.runtime_canSpin", "internal/sync.runtime_doSpin", "internal/sync.throw", "internal/sync.runtime_nanotime", "internal/sync.runtime_SemacquireMutex", "sync/atomic.AddInt32", "(*internal/sync.Mutex).Unlock", "internal/race.ReleaseMerge", "(*internal/sync.Mutex).unlockSlow", "internal/sync.fatal", "internal/sync.runtime_Semrelease", "sync/atomic.StoreUint32"], unfollowed := true, recurses := true, named := ["quilt/querylang.words", "strconv.ErrSyntax", "strconv.ErrRange", "internal/strconv.uint64pow10", "math/bits.deBruijn32tab", "math/bits.deBruijn64tab", "unicode/utf8.first", "unicode/utf8.acceptRanges", "internal/bytealg.MaxLen"], plainKeys := false, apart := false, laid := [("math/bits.deBruijn32tab", laid_math_bits_deBruijn32tab), ("math/bits.deBruijn64tab", laid_math_bits_deBruijn64tab), ("internal/strconv.uint64pow10", laid_internal_strconv_uint64pow10), ("unicode/utf8.acceptRanges", laid_unicode_utf8_acceptRanges), ("strconv.ErrRange", laid_strconv_ErrRange), ("strconv.ErrSyntax", laid_strconv_ErrSyntax), ("quilt/querylang.words", laid_quilt_querylang_words), ("unicode/utf8.first", laid_unicode_utf8_first)], narrowed := true }
def QuerylangErrorsUptoSaid : Prop := querylangErrorsUptoRow.holds Tryz.pinned (OpenSpec.upto querylangErrorsSpec)

end Rows
end Go.Proofs.YtpoefbbfhebakaaGreatDoor
