/-
  NARROWER THAN 'FOR EVERY INPUT', by the rows' own cells (each row's printed sentence says how): QueryValidates: laid · QueryNames: laid · QueryParses: laid · QueryReads: laid · QueryParsesAt: laid · QueryFormats: laid · QueryRoundTrips: laid.
  DERIVED. THE GIVEN ROWS OF THIS SEAT. 7 by the template 'for every input the law returns true; each argument reads behind the call as it read before'; 0 by the template 'total and deterministic' (their statements: YtmbeeefkpgfgmaaGreatDoorTotals.lean).
  GIVEN WITH THE SEED: the statements are not yours to turn. If you find one false, say at which input.
  Laid BY PROGRAM, IN A SANDBOX (cutbox-rows.mjs): the forced cells as the released guide's own fill.sh prints them over the translation dac59aeec5127297… (all of the seat's roots in one cut). By AI agents, Wed Nov 11 2026. No macro, syntax, notation, axiom, sorry.
-/
import Derived.Test.YtmbeeefkpgfgmaaGreatDoorChecked
import GoSem.PinnedTables
import GoSem.Claim
import GoSem.ClaimJoined
import GoSem.ClaimMapViews
import Derived.JoinedTies
import Derived.KernelRfl
namespace Go.Proofs.YtmbeeefkpgfgmaaGreatDoor
/- THE CELL 'sum', in the pinned program and in every row, IS THE sha256 OF THE DUMP (.gsa) THAT YtmbeeefkpgfgmaaGreatDoorProg.lean LOADS. Nothing in Lean hashes anything: it is a label: what it is worth is what the hold of that sum in a sandbox is worth. -/
noncomputable def Tryz.pinned : Pinned := { name := "ytmbeeefkpgfgmaagreatdoor", sum := "dac59aeec512729755b8663f62dde4c4f69426f6ba92755c8f843dad793a3113", checked := Tryz.checked }
namespace Rows
def none {H : Type} : Left H := { results := [], args := [] }

/- WHAT THE LISTED PACKAGE-LEVEL VARIABLES READ AS WHEN THE CALL BEGINS. Each datum BY PROGRAM (the guide's laid-datum.mjs) off the statement by which the dump's own 'gosem.cut.vars' lays the variable. In a bare row this is a premise. The card (YtmbeeefkpgfgmaaGreatDoorCards.lean) ties it to the program's text. -/
def laid_warehouse_token_words {H : Type} : DataW H := .slice [.lit (.string [97, 110, 100]), .lit (.string [111, 114]), .lit (.string [110, 111, 116]), .lit (.string [110, 117, 108, 108]), .lit (.string [116, 114, 117, 101]), .lit (.string [102, 97, 108, 115, 101]), .lit (.string [98, 121]), .lit (.string [115, 101, 108, 102])] []
def laid_warehouse_query_used {H : Type} : DataW H := .agg [.agg [.lit (.bool true), .lit (.bool false), .lit (.bool false), .lit (.bool false), .lit (.bool false)], .agg [.lit (.bool false), .lit (.bool false), .lit (.bool false), .lit (.bool false), .lit (.bool true)], .agg [.lit (.bool false), .lit (.bool false), .lit (.bool false), .lit (.bool true), .lit (.bool false)], .agg [.lit (.bool false), .lit (.bool true), .lit (.bool false), .lit (.bool false), .lit (.bool false)], .agg [.lit (.bool true), .lit (.bool true), .lit (.bool true), .lit (.bool true), .lit (.bool false)], .agg [.lit (.bool true), .lit (.bool true), .lit (.bool true), .lit (.bool true), .lit (.bool false)], .agg [.lit (.bool true), .lit (.bool true), .lit (.bool true), .lit (.bool false), .lit (.bool false)], .agg [.lit (.bool true), .lit (.bool true), .lit (.bool true), .lit (.bool false), .lit (.bool false)], .agg [.lit (.bool true), .lit (.bool false), .lit (.bool false), .lit (.bool false), .lit (.bool false)], .agg [.lit (.bool true), .lit (.bool false), .lit (.bool false), .lit (.bool false), .lit (.bool false)], .agg [.lit (.bool false), .lit (.bool false), .lit (.bool false), .lit (.bool false), .lit (.bool false)], .agg [.lit (.bool false), .lit (.bool true), .lit (.bool false), .lit (.bool true), .lit (.bool false)], .agg [.lit (.bool false), .lit (.bool true), .lit (.bool true), .lit (.bool true), .lit (.bool false)]]
def laid_math_bits_deBruijn32tab {H : Type} : DataW H := .agg [.lit (.int .u8 0), .lit (.int .u8 1), .lit (.int .u8 28), .lit (.int .u8 2), .lit (.int .u8 29), .lit (.int .u8 14), .lit (.int .u8 24), .lit (.int .u8 3), .lit (.int .u8 30), .lit (.int .u8 22), .lit (.int .u8 20), .lit (.int .u8 15), .lit (.int .u8 25), .lit (.int .u8 17), .lit (.int .u8 4), .lit (.int .u8 8), .lit (.int .u8 31), .lit (.int .u8 27), .lit (.int .u8 13), .lit (.int .u8 23), .lit (.int .u8 21), .lit (.int .u8 19), .lit (.int .u8 16), .lit (.int .u8 7), .lit (.int .u8 26), .lit (.int .u8 12), .lit (.int .u8 18), .lit (.int .u8 6), .lit (.int .u8 11), .lit (.int .u8 5), .lit (.int .u8 10), .lit (.int .u8 9)]
def laid_math_bits_deBruijn64tab {H : Type} : DataW H := .agg [.lit (.int .u8 0), .lit (.int .u8 1), .lit (.int .u8 56), .lit (.int .u8 2), .lit (.int .u8 57), .lit (.int .u8 49), .lit (.int .u8 28), .lit (.int .u8 3), .lit (.int .u8 61), .lit (.int .u8 58), .lit (.int .u8 42), .lit (.int .u8 50), .lit (.int .u8 38), .lit (.int .u8 29), .lit (.int .u8 17), .lit (.int .u8 4), .lit (.int .u8 62), .lit (.int .u8 47), .lit (.int .u8 59), .lit (.int .u8 36), .lit (.int .u8 45), .lit (.int .u8 43), .lit (.int .u8 51), .lit (.int .u8 22), .lit (.int .u8 53), .lit (.int .u8 39), .lit (.int .u8 33), .lit (.int .u8 30), .lit (.int .u8 24), .lit (.int .u8 18), .lit (.int .u8 12), .lit (.int .u8 5), .lit (.int .u8 63), .lit (.int .u8 55), .lit (.int .u8 48), .lit (.int .u8 27), .lit (.int .u8 60), .lit (.int .u8 41), .lit (.int .u8 37), .lit (.int .u8 16), .lit (.int .u8 46), .lit (.int .u8 35), .lit (.int .u8 44), .lit (.int .u8 21), .lit (.int .u8 52), .lit (.int .u8 32), .lit (.int .u8 23), .lit (.int .u8 11), .lit (.int .u8 54), .lit (.int .u8 26), .lit (.int .u8 40), .lit (.int .u8 15), .lit (.int .u8 34), .lit (.int .u8 20), .lit (.int .u8 31), .lit (.int .u8 10), .lit (.int .u8 25), .lit (.int .u8 14), .lit (.int .u8 19), .lit (.int .u8 9), .lit (.int .u8 13), .lit (.int .u8 8), .lit (.int .u8 7), .lit (.int .u8 6)]
def laid_internal_strconv_uint64pow10 {H : Type} : DataW H := .agg [.lit (.int .u64 1), .lit (.int .u64 10), .lit (.int .u64 100), .lit (.int .u64 1000), .lit (.int .u64 10000), .lit (.int .u64 100000), .lit (.int .u64 1000000), .lit (.int .u64 10000000), .lit (.int .u64 100000000), .lit (.int .u64 1000000000), .lit (.int .u64 10000000000), .lit (.int .u64 100000000000), .lit (.int .u64 1000000000000), .lit (.int .u64 10000000000000), .lit (.int .u64 100000000000000), .lit (.int .u64 1000000000000000), .lit (.int .u64 10000000000000000), .lit (.int .u64 100000000000000000), .lit (.int .u64 1000000000000000000), .lit (.int .u64 10000000000000000000)]
def laid_unicode_utf8_acceptRanges {H : Type} : DataW H := .agg [.agg [.lit (.int .u8 128), .lit (.int .u8 191)], .agg [.lit (.int .u8 160), .lit (.int .u8 191)], .agg [.lit (.int .u8 128), .lit (.int .u8 159)], .agg [.lit (.int .u8 144), .lit (.int .u8 191)], .agg [.lit (.int .u8 128), .lit (.int .u8 143)], .agg [.lit (.int .u8 0), .lit (.int .u8 0)], .agg [.lit (.int .u8 0), .lit (.int .u8 0)], .agg [.lit (.int .u8 0), .lit (.int .u8 0)], .agg [.lit (.int .u8 0), .lit (.int .u8 0)], .agg [.lit (.int .u8 0), .lit (.int .u8 0)], .agg [.lit (.int .u8 0), .lit (.int .u8 0)], .agg [.lit (.int .u8 0), .lit (.int .u8 0)], .agg [.lit (.int .u8 0), .lit (.int .u8 0)], .agg [.lit (.int .u8 0), .lit (.int .u8 0)], .agg [.lit (.int .u8 0), .lit (.int .u8 0)], .agg [.lit (.int .u8 0), .lit (.int .u8 0)]]
def laid_warehouse_civil_lengths {H : Type} : DataW H := .agg [.lit (.int .i64 31), .lit (.int .i64 28), .lit (.int .i64 31), .lit (.int .i64 30), .lit (.int .i64 31), .lit (.int .i64 30), .lit (.int .i64 31), .lit (.int .i64 31), .lit (.int .i64 30), .lit (.int .i64 31), .lit (.int .i64 30), .lit (.int .i64 31)]
def laid_warehouse_token_symbols {H : Type} : DataW H := .slice [.lit (.string [43, 43]), .lit (.string [60, 61]), .lit (.string [62, 61]), .lit (.string [33, 61]), .lit (.string [40]), .lit (.string [41]), .lit (.string [44]), .lit (.string [59]), .lit (.string [58]), .lit (.string [124]), .lit (.string [61]), .lit (.string [43]), .lit (.string [45]), .lit (.string [42]), .lit (.string [47]), .lit (.string [37]), .lit (.string [60]), .lit (.string [62])] []
def laid_warehouse_query_stepWords {H : Type} : DataW H := .agg [.lit (.string [102, 114, 111, 109]), .lit (.string [119, 104, 101, 114, 101]), .lit (.string [100, 101, 114, 105, 118, 101]), .lit (.string [115, 101, 108, 101, 99, 116]), .lit (.string [106, 111, 105, 110]), .lit (.string [108, 101, 102, 116]), .lit (.string [115, 101, 109, 105]), .lit (.string [97, 110, 116, 105]), .lit (.string [117, 110, 105, 111, 110]), .lit (.string [101, 120, 99, 101, 112, 116]), .lit (.string [100, 105, 115, 116, 105, 110, 99, 116]), .lit (.string [103, 114, 111, 117, 112]), .lit (.string [119, 105, 110, 100, 111, 119])]
/-- One of Go's own tables, pinned by name: the form's constant. -/
def laid_unicode_utf8_first : DataW Unit := Go.Pinned.utf8First

/-- 'warehouselaw11.QueryValidates': WHATEVER THE INPUT: true; the input reads as it did. -/
def queryValidatesSpec : ChangeSpec := { name := "queryValidates", fn := fun _ => fun
  | [d1, d2, d3, d4, d5] => { results := [.lit (.bool true)], args := [d1, d2, d3, d4, d5] }
  | _ => none }
def queryValidatesRow : OpenClaim := { program := "ytmbeeefkpgfgmaagreatdoor", sum := "dac59aeec512729755b8663f62dde4c4f69426f6ba92755c8f843dad793a3113", func := "warehouse/warehouselaw11.QueryValidates", spec := "queryValidates", inPlace := ["internal/bytealg.IndexByteString", "internal/bytealg.IndexString"], unfollowed := true, recurses := true, named := ["warehouse/query.used", "internal/bytealg.MaxLen", "warehouse/token.words"], apart := false, laid := [("warehouse/token.words", laid_warehouse_token_words), ("warehouse/query.used", laid_warehouse_query_used)] }
def QueryValidatesSaid : Prop := queryValidatesRow.holds Tryz.pinned (OpenSpec.ofChange queryValidatesSpec)

/-- ITS FALSE NEIGHBOUR: 'it returns false'. Refute it at one input. -/
def queryValidatesWrong : ChangeSpec := { name := "queryValidates", fn := fun _ => fun
  | [d1, d2, d3, d4, d5] => { results := [.lit (.bool false)], args := [d1, d2, d3, d4, d5] }
  | _ => none }
def QueryValidatesWrongFalsely : Prop := queryValidatesRow.holds Tryz.pinned (OpenSpec.ofChange queryValidatesWrong)

/-- 'warehouselaw11.QueryNames': WHATEVER THE INPUT: true; the input reads as it did. -/
def queryNamesSpec : ChangeSpec := { name := "queryNames", fn := fun _ => fun
  | [d1, d2, d3] => { results := [.lit (.bool true)], args := [d1, d2, d3] }
  | _ => none }
def queryNamesRow : OpenClaim := { program := "ytmbeeefkpgfgmaagreatdoor", sum := "dac59aeec512729755b8663f62dde4c4f69426f6ba92755c8f843dad793a3113", func := "warehouse/warehouselaw11.QueryNames", spec := "queryNames", inPlace := ["internal/bytealg.IndexByteString", "internal/bytealg.IndexString"], unfollowed := true, recurses := true, named := ["warehouse/query.used", "internal/bytealg.MaxLen", "warehouse/token.words"], apart := false, laid := [("warehouse/token.words", laid_warehouse_token_words), ("warehouse/query.used", laid_warehouse_query_used)] }
def QueryNamesSaid : Prop := queryNamesRow.holds Tryz.pinned (OpenSpec.ofChange queryNamesSpec)

/-- ITS FALSE NEIGHBOUR: 'it returns false'. Refute it at one input. -/
def queryNamesWrong : ChangeSpec := { name := "queryNames", fn := fun _ => fun
  | [d1, d2, d3] => { results := [.lit (.bool false)], args := [d1, d2, d3] }
  | _ => none }
def QueryNamesWrongFalsely : Prop := queryNamesRow.holds Tryz.pinned (OpenSpec.ofChange queryNamesWrong)

/-- 'warehouselaw11.QueryParses': WHATEVER THE INPUT: true; the input reads as it did. -/
def queryParsesSpec : ChangeSpec := { name := "queryParses", fn := fun _ => fun
  | [d1, d2, d3] => { results := [.lit (.bool true)], args := [d1, d2, d3] }
  | _ => none }
def queryParsesRow : OpenClaim := { program := "ytmbeeefkpgfgmaagreatdoor", sum := "dac59aeec512729755b8663f62dde4c4f69426f6ba92755c8f843dad793a3113", func := "warehouse/warehouselaw11.QueryParses", spec := "queryParses", inPlace := ["internal/bytealg.IndexByteString", "internal/bytealg.IndexString", "internal/bytealg.CountString", "internal/abi.NoEscape", "internal/bytealg.MakeNoZero"], unfollowed := true, recurses := true, named := ["warehouse/token.symbols", "warehouse/civil.lengths", "internal/bytealg.MaxLen", "warehouse/token.words", "warehouse/query.used", "warehouse/query.stepWords", "internal/strconv.uint64pow10", "math/bits.deBruijn32tab", "math/bits.deBruijn64tab", "unicode/utf8.first", "unicode/utf8.acceptRanges"], apart := false, laid := [("math/bits.deBruijn32tab", laid_math_bits_deBruijn32tab), ("math/bits.deBruijn64tab", laid_math_bits_deBruijn64tab), ("internal/strconv.uint64pow10", laid_internal_strconv_uint64pow10), ("unicode/utf8.acceptRanges", laid_unicode_utf8_acceptRanges), ("warehouse/civil.lengths", laid_warehouse_civil_lengths), ("warehouse/token.words", laid_warehouse_token_words), ("warehouse/token.symbols", laid_warehouse_token_symbols), ("warehouse/query.stepWords", laid_warehouse_query_stepWords), ("warehouse/query.used", laid_warehouse_query_used), ("unicode/utf8.first", laid_unicode_utf8_first)] }
def QueryParsesSaid : Prop := queryParsesRow.holds Tryz.pinned (OpenSpec.ofChange queryParsesSpec)

/-- ITS FALSE NEIGHBOUR: 'it returns false'. Refute it at one input. -/
def queryParsesWrong : ChangeSpec := { name := "queryParses", fn := fun _ => fun
  | [d1, d2, d3] => { results := [.lit (.bool false)], args := [d1, d2, d3] }
  | _ => none }
def QueryParsesWrongFalsely : Prop := queryParsesRow.holds Tryz.pinned (OpenSpec.ofChange queryParsesWrong)

/-- 'warehouselaw11.QueryReads': WHATEVER THE INPUT: true; the input reads as it did. -/
def queryReadsSpec : ChangeSpec := { name := "queryReads", fn := fun _ => fun
  | [d1, d2, d3, d4, d5] => { results := [.lit (.bool true)], args := [d1, d2, d3, d4, d5] }
  | _ => none }
def queryReadsRow : OpenClaim := { program := "ytmbeeefkpgfgmaagreatdoor", sum := "dac59aeec512729755b8663f62dde4c4f69426f6ba92755c8f843dad793a3113", func := "warehouse/warehouselaw11.QueryReads", spec := "queryReads", inPlace := ["internal/bytealg.IndexByteString", "internal/bytealg.IndexString", "internal/bytealg.CountString", "internal/abi.NoEscape", "internal/bytealg.MakeNoZero"], unfollowed := true, recurses := true, named := ["warehouse/token.symbols", "warehouse/civil.lengths", "internal/bytealg.MaxLen", "warehouse/token.words", "warehouse/query.used", "warehouse/query.stepWords", "internal/strconv.uint64pow10", "math/bits.deBruijn32tab", "math/bits.deBruijn64tab", "unicode/utf8.first", "unicode/utf8.acceptRanges"], apart := false, laid := [("math/bits.deBruijn32tab", laid_math_bits_deBruijn32tab), ("math/bits.deBruijn64tab", laid_math_bits_deBruijn64tab), ("internal/strconv.uint64pow10", laid_internal_strconv_uint64pow10), ("unicode/utf8.acceptRanges", laid_unicode_utf8_acceptRanges), ("warehouse/civil.lengths", laid_warehouse_civil_lengths), ("warehouse/token.words", laid_warehouse_token_words), ("warehouse/token.symbols", laid_warehouse_token_symbols), ("warehouse/query.stepWords", laid_warehouse_query_stepWords), ("warehouse/query.used", laid_warehouse_query_used), ("unicode/utf8.first", laid_unicode_utf8_first)] }
def QueryReadsSaid : Prop := queryReadsRow.holds Tryz.pinned (OpenSpec.ofChange queryReadsSpec)

/-- ITS FALSE NEIGHBOUR: 'it returns false'. Refute it at one input. -/
def queryReadsWrong : ChangeSpec := { name := "queryReads", fn := fun _ => fun
  | [d1, d2, d3, d4, d5] => { results := [.lit (.bool false)], args := [d1, d2, d3, d4, d5] }
  | _ => none }
def QueryReadsWrongFalsely : Prop := queryReadsRow.holds Tryz.pinned (OpenSpec.ofChange queryReadsWrong)

/-- 'warehouselaw11.QueryParsesAt': WHATEVER THE INPUT: true; the input reads as it did. -/
def queryParsesAtSpec : ChangeSpec := { name := "queryParsesAt", fn := fun _ => fun
  | [d1, d2, d3, d4] => { results := [.lit (.bool true)], args := [d1, d2, d3, d4] }
  | _ => none }
def queryParsesAtRow : OpenClaim := { program := "ytmbeeefkpgfgmaagreatdoor", sum := "dac59aeec512729755b8663f62dde4c4f69426f6ba92755c8f843dad793a3113", func := "warehouse/warehouselaw11.QueryParsesAt", spec := "queryParsesAt", inPlace := ["internal/bytealg.IndexByteString", "internal/bytealg.IndexString", "internal/bytealg.CountString", "internal/abi.NoEscape", "internal/bytealg.MakeNoZero"], unfollowed := true, recurses := true, named := ["warehouse/token.symbols", "warehouse/civil.lengths", "internal/bytealg.MaxLen", "warehouse/token.words", "warehouse/query.used", "warehouse/query.stepWords", "internal/strconv.uint64pow10", "math/bits.deBruijn32tab", "math/bits.deBruijn64tab", "unicode/utf8.first", "unicode/utf8.acceptRanges"], apart := false, laid := [("math/bits.deBruijn32tab", laid_math_bits_deBruijn32tab), ("math/bits.deBruijn64tab", laid_math_bits_deBruijn64tab), ("internal/strconv.uint64pow10", laid_internal_strconv_uint64pow10), ("unicode/utf8.acceptRanges", laid_unicode_utf8_acceptRanges), ("warehouse/civil.lengths", laid_warehouse_civil_lengths), ("warehouse/token.words", laid_warehouse_token_words), ("warehouse/token.symbols", laid_warehouse_token_symbols), ("warehouse/query.stepWords", laid_warehouse_query_stepWords), ("warehouse/query.used", laid_warehouse_query_used), ("unicode/utf8.first", laid_unicode_utf8_first)] }
def QueryParsesAtSaid : Prop := queryParsesAtRow.holds Tryz.pinned (OpenSpec.ofChange queryParsesAtSpec)

/-- ITS FALSE NEIGHBOUR: 'it returns false'. Refute it at one input. -/
def queryParsesAtWrong : ChangeSpec := { name := "queryParsesAt", fn := fun _ => fun
  | [d1, d2, d3, d4] => { results := [.lit (.bool false)], args := [d1, d2, d3, d4] }
  | _ => none }
def QueryParsesAtWrongFalsely : Prop := queryParsesAtRow.holds Tryz.pinned (OpenSpec.ofChange queryParsesAtWrong)

/-- 'warehouselaw11.QueryFormats': WHATEVER THE INPUT: true; the input reads as it did. -/
def queryFormatsSpec : ChangeSpec := { name := "queryFormats", fn := fun _ => fun
  | [d1, d2, d3, d4] => { results := [.lit (.bool true)], args := [d1, d2, d3, d4] }
  | _ => none }
def queryFormatsRow : OpenClaim := { program := "ytmbeeefkpgfgmaagreatdoor", sum := "dac59aeec512729755b8663f62dde4c4f69426f6ba92755c8f843dad793a3113", func := "warehouse/warehouselaw11.QueryFormats", spec := "queryFormats", inPlace := ["internal/bytealg.IndexByteString", "internal/bytealg.IndexString", "internal/bytealg.CountString", "internal/abi.NoEscape", "internal/bytealg.MakeNoZero"], unfollowed := true, recurses := true, named := ["warehouse/token.symbols", "warehouse/civil.lengths", "internal/bytealg.MaxLen", "warehouse/token.words", "warehouse/query.used", "warehouse/query.stepWords", "internal/strconv.uint64pow10", "math/bits.deBruijn32tab", "math/bits.deBruijn64tab", "unicode/utf8.first", "unicode/utf8.acceptRanges"], apart := false, laid := [("math/bits.deBruijn32tab", laid_math_bits_deBruijn32tab), ("math/bits.deBruijn64tab", laid_math_bits_deBruijn64tab), ("internal/strconv.uint64pow10", laid_internal_strconv_uint64pow10), ("unicode/utf8.acceptRanges", laid_unicode_utf8_acceptRanges), ("warehouse/civil.lengths", laid_warehouse_civil_lengths), ("warehouse/token.words", laid_warehouse_token_words), ("warehouse/token.symbols", laid_warehouse_token_symbols), ("warehouse/query.stepWords", laid_warehouse_query_stepWords), ("warehouse/query.used", laid_warehouse_query_used), ("unicode/utf8.first", laid_unicode_utf8_first)] }
def QueryFormatsSaid : Prop := queryFormatsRow.holds Tryz.pinned (OpenSpec.ofChange queryFormatsSpec)

/-- ITS FALSE NEIGHBOUR: 'it returns false'. Refute it at one input. -/
def queryFormatsWrong : ChangeSpec := { name := "queryFormats", fn := fun _ => fun
  | [d1, d2, d3, d4] => { results := [.lit (.bool false)], args := [d1, d2, d3, d4] }
  | _ => none }
def QueryFormatsWrongFalsely : Prop := queryFormatsRow.holds Tryz.pinned (OpenSpec.ofChange queryFormatsWrong)

/-- 'warehouselaw11.QueryRoundTrips': WHATEVER THE INPUT: true; the input reads as it did. -/
def queryRoundTripsSpec : ChangeSpec := { name := "queryRoundTrips", fn := fun _ => fun
  | [d1, d2, d3, d4, d5] => { results := [.lit (.bool true)], args := [d1, d2, d3, d4, d5] }
  | _ => none }
def queryRoundTripsRow : OpenClaim := { program := "ytmbeeefkpgfgmaagreatdoor", sum := "dac59aeec512729755b8663f62dde4c4f69426f6ba92755c8f843dad793a3113", func := "warehouse/warehouselaw11.QueryRoundTrips", spec := "queryRoundTrips", inPlace := ["internal/bytealg.IndexByteString", "internal/bytealg.IndexString", "internal/bytealg.CountString", "internal/abi.NoEscape", "internal/bytealg.MakeNoZero"], unfollowed := true, recurses := true, named := ["warehouse/token.symbols", "warehouse/civil.lengths", "internal/bytealg.MaxLen", "warehouse/token.words", "warehouse/query.used", "warehouse/query.stepWords", "internal/strconv.uint64pow10", "math/bits.deBruijn32tab", "math/bits.deBruijn64tab", "unicode/utf8.first", "unicode/utf8.acceptRanges"], apart := false, laid := [("math/bits.deBruijn32tab", laid_math_bits_deBruijn32tab), ("math/bits.deBruijn64tab", laid_math_bits_deBruijn64tab), ("internal/strconv.uint64pow10", laid_internal_strconv_uint64pow10), ("unicode/utf8.acceptRanges", laid_unicode_utf8_acceptRanges), ("warehouse/civil.lengths", laid_warehouse_civil_lengths), ("warehouse/token.words", laid_warehouse_token_words), ("warehouse/token.symbols", laid_warehouse_token_symbols), ("warehouse/query.stepWords", laid_warehouse_query_stepWords), ("warehouse/query.used", laid_warehouse_query_used), ("unicode/utf8.first", laid_unicode_utf8_first)] }
def QueryRoundTripsSaid : Prop := queryRoundTripsRow.holds Tryz.pinned (OpenSpec.ofChange queryRoundTripsSpec)

/-- ITS FALSE NEIGHBOUR: 'it returns false'. Refute it at one input. -/
def queryRoundTripsWrong : ChangeSpec := { name := "queryRoundTrips", fn := fun _ => fun
  | [d1, d2, d3, d4, d5] => { results := [.lit (.bool false)], args := [d1, d2, d3, d4, d5] }
  | _ => none }
def QueryRoundTripsWrongFalsely : Prop := queryRoundTripsRow.holds Tryz.pinned (OpenSpec.ofChange queryRoundTripsWrong)

/- THE SECOND FORM. 'bulk': how many values and letters a reading holds, each counted each time it is reached (what is shared counts as often as it is met; a slice's spare places count too). A statement '..UptoSaid' is the law's where the arguments, and the package variables that the reading takes, are together of bulk at most 1048576: NARROWER than '..Said'. Prove '..Said' where nothing that the law and all that it calls make is longer than what came in: it says more and counts as full. Else prove '..UptoSaid'. A law counts once. -/
mutual
def uptoBulk {H : Type} : DataW H → Nat
  | .lit (.string bytes) => bytes.length + 1
  | .lit _ => 1
  | .nil => 1
  | .ptr d => uptoBulk d + 1
  | .slice elems spare => uptoBulkAll elems + uptoBulkAll spare + 1
  | .agg parts => uptoBulkAll parts + 1
  | .iface _ d => uptoBulk d + 1
  | .map entries => uptoBulkEntries entries + 1
  | .held _ => 1
def uptoBulkAll {H : Type} : List (DataW H) → Nat
  | [] => 0
  | d :: r => uptoBulk d + uptoBulkAll r
def uptoBulkEntries {H : Type} : List (Lit × DataW H) → Nat
  | [] => 0
  | x :: r => uptoBulkEntry x + uptoBulkEntries r
def uptoBulkEntry {H : Type} : Lit × DataW H → Nat
  | (.string bytes, d) => bytes.length + uptoBulk d + 1
  | (_, d) => uptoBulk d + 1
 end
def uptoSmall : (H : Type) → List (DataW H) → Bool := fun _ ds => decide (uptoBulkAll ds ≤ 1048576)
def OpenSpec.upto (s : _root_.Go.ChangeSpec) : _root_.Go.OpenSpec := { _root_.Go.OpenSpec.ofChange s with cond := some uptoSmall }

/-- 'warehouselaw11.QueryValidates', WHERE WHAT IT READS IS OF BULK AT MOST 1048576: true; the input reads as it did. -/
def queryValidatesUptoRow : OpenClaim := { program := "ytmbeeefkpgfgmaagreatdoor", sum := "dac59aeec512729755b8663f62dde4c4f69426f6ba92755c8f843dad793a3113", func := "warehouse/warehouselaw11.QueryValidates", spec := "queryValidates", inPlace := ["internal/bytealg.IndexByteString", "internal/bytealg.IndexString"], unfollowed := true, recurses := true, named := ["warehouse/query.used", "internal/bytealg.MaxLen", "warehouse/token.words"], apart := false, laid := [("warehouse/token.words", laid_warehouse_token_words), ("warehouse/query.used", laid_warehouse_query_used)], narrowed := true }
def QueryValidatesUptoSaid : Prop := queryValidatesUptoRow.holds Tryz.pinned (OpenSpec.upto queryValidatesSpec)

/-- 'warehouselaw11.QueryNames', WHERE WHAT IT READS IS OF BULK AT MOST 1048576: true; the input reads as it did. -/
def queryNamesUptoRow : OpenClaim := { program := "ytmbeeefkpgfgmaagreatdoor", sum := "dac59aeec512729755b8663f62dde4c4f69426f6ba92755c8f843dad793a3113", func := "warehouse/warehouselaw11.QueryNames", spec := "queryNames", inPlace := ["internal/bytealg.IndexByteString", "internal/bytealg.IndexString"], unfollowed := true, recurses := true, named := ["warehouse/query.used", "internal/bytealg.MaxLen", "warehouse/token.words"], apart := false, laid := [("warehouse/token.words", laid_warehouse_token_words), ("warehouse/query.used", laid_warehouse_query_used)], narrowed := true }
def QueryNamesUptoSaid : Prop := queryNamesUptoRow.holds Tryz.pinned (OpenSpec.upto queryNamesSpec)

/-- 'warehouselaw11.QueryParses', WHERE WHAT IT READS IS OF BULK AT MOST 1048576: true; the input reads as it did. -/
def queryParsesUptoRow : OpenClaim := { program := "ytmbeeefkpgfgmaagreatdoor", sum := "dac59aeec512729755b8663f62dde4c4f69426f6ba92755c8f843dad793a3113", func := "warehouse/warehouselaw11.QueryParses", spec := "queryParses", inPlace := ["internal/bytealg.IndexByteString", "internal/bytealg.IndexString", "internal/bytealg.CountString", "internal/abi.NoEscape", "internal/bytealg.MakeNoZero"], unfollowed := true, recurses := true, named := ["warehouse/token.symbols", "warehouse/civil.lengths", "internal/bytealg.MaxLen", "warehouse/token.words", "warehouse/query.used", "warehouse/query.stepWords", "internal/strconv.uint64pow10", "math/bits.deBruijn32tab", "math/bits.deBruijn64tab", "unicode/utf8.first", "unicode/utf8.acceptRanges"], apart := false, laid := [("math/bits.deBruijn32tab", laid_math_bits_deBruijn32tab), ("math/bits.deBruijn64tab", laid_math_bits_deBruijn64tab), ("internal/strconv.uint64pow10", laid_internal_strconv_uint64pow10), ("unicode/utf8.acceptRanges", laid_unicode_utf8_acceptRanges), ("warehouse/civil.lengths", laid_warehouse_civil_lengths), ("warehouse/token.words", laid_warehouse_token_words), ("warehouse/token.symbols", laid_warehouse_token_symbols), ("warehouse/query.stepWords", laid_warehouse_query_stepWords), ("warehouse/query.used", laid_warehouse_query_used), ("unicode/utf8.first", laid_unicode_utf8_first)], narrowed := true }
def QueryParsesUptoSaid : Prop := queryParsesUptoRow.holds Tryz.pinned (OpenSpec.upto queryParsesSpec)

/-- 'warehouselaw11.QueryReads', WHERE WHAT IT READS IS OF BULK AT MOST 1048576: true; the input reads as it did. -/
def queryReadsUptoRow : OpenClaim := { program := "ytmbeeefkpgfgmaagreatdoor", sum := "dac59aeec512729755b8663f62dde4c4f69426f6ba92755c8f843dad793a3113", func := "warehouse/warehouselaw11.QueryReads", spec := "queryReads", inPlace := ["internal/bytealg.IndexByteString", "internal/bytealg.IndexString", "internal/bytealg.CountString", "internal/abi.NoEscape", "internal/bytealg.MakeNoZero"], unfollowed := true, recurses := true, named := ["warehouse/token.symbols", "warehouse/civil.lengths", "internal/bytealg.MaxLen", "warehouse/token.words", "warehouse/query.used", "warehouse/query.stepWords", "internal/strconv.uint64pow10", "math/bits.deBruijn32tab", "math/bits.deBruijn64tab", "unicode/utf8.first", "unicode/utf8.acceptRanges"], apart := false, laid := [("math/bits.deBruijn32tab", laid_math_bits_deBruijn32tab), ("math/bits.deBruijn64tab", laid_math_bits_deBruijn64tab), ("internal/strconv.uint64pow10", laid_internal_strconv_uint64pow10), ("unicode/utf8.acceptRanges", laid_unicode_utf8_acceptRanges), ("warehouse/civil.lengths", laid_warehouse_civil_lengths), ("warehouse/token.words", laid_warehouse_token_words), ("warehouse/token.symbols", laid_warehouse_token_symbols), ("warehouse/query.stepWords", laid_warehouse_query_stepWords), ("warehouse/query.used", laid_warehouse_query_used), ("unicode/utf8.first", laid_unicode_utf8_first)], narrowed := true }
def QueryReadsUptoSaid : Prop := queryReadsUptoRow.holds Tryz.pinned (OpenSpec.upto queryReadsSpec)

/-- 'warehouselaw11.QueryParsesAt', WHERE WHAT IT READS IS OF BULK AT MOST 1048576: true; the input reads as it did. -/
def queryParsesAtUptoRow : OpenClaim := { program := "ytmbeeefkpgfgmaagreatdoor", sum := "dac59aeec512729755b8663f62dde4c4f69426f6ba92755c8f843dad793a3113", func := "warehouse/warehouselaw11.QueryParsesAt", spec := "queryParsesAt", inPlace := ["internal/bytealg.IndexByteString", "internal/bytealg.IndexString", "internal/bytealg.CountString", "internal/abi.NoEscape", "internal/bytealg.MakeNoZero"], unfollowed := true, recurses := true, named := ["warehouse/token.symbols", "warehouse/civil.lengths", "internal/bytealg.MaxLen", "warehouse/token.words", "warehouse/query.used", "warehouse/query.stepWords", "internal/strconv.uint64pow10", "math/bits.deBruijn32tab", "math/bits.deBruijn64tab", "unicode/utf8.first", "unicode/utf8.acceptRanges"], apart := false, laid := [("math/bits.deBruijn32tab", laid_math_bits_deBruijn32tab), ("math/bits.deBruijn64tab", laid_math_bits_deBruijn64tab), ("internal/strconv.uint64pow10", laid_internal_strconv_uint64pow10), ("unicode/utf8.acceptRanges", laid_unicode_utf8_acceptRanges), ("warehouse/civil.lengths", laid_warehouse_civil_lengths), ("warehouse/token.words", laid_warehouse_token_words), ("warehouse/token.symbols", laid_warehouse_token_symbols), ("warehouse/query.stepWords", laid_warehouse_query_stepWords), ("warehouse/query.used", laid_warehouse_query_used), ("unicode/utf8.first", laid_unicode_utf8_first)], narrowed := true }
def QueryParsesAtUptoSaid : Prop := queryParsesAtUptoRow.holds Tryz.pinned (OpenSpec.upto queryParsesAtSpec)

/-- 'warehouselaw11.QueryFormats', WHERE WHAT IT READS IS OF BULK AT MOST 1048576: true; the input reads as it did. -/
def queryFormatsUptoRow : OpenClaim := { program := "ytmbeeefkpgfgmaagreatdoor", sum := "dac59aeec512729755b8663f62dde4c4f69426f6ba92755c8f843dad793a3113", func := "warehouse/warehouselaw11.QueryFormats", spec := "queryFormats", inPlace := ["internal/bytealg.IndexByteString", "internal/bytealg.IndexString", "internal/bytealg.CountString", "internal/abi.NoEscape", "internal/bytealg.MakeNoZero"], unfollowed := true, recurses := true, named := ["warehouse/token.symbols", "warehouse/civil.lengths", "internal/bytealg.MaxLen", "warehouse/token.words", "warehouse/query.used", "warehouse/query.stepWords", "internal/strconv.uint64pow10", "math/bits.deBruijn32tab", "math/bits.deBruijn64tab", "unicode/utf8.first", "unicode/utf8.acceptRanges"], apart := false, laid := [("math/bits.deBruijn32tab", laid_math_bits_deBruijn32tab), ("math/bits.deBruijn64tab", laid_math_bits_deBruijn64tab), ("internal/strconv.uint64pow10", laid_internal_strconv_uint64pow10), ("unicode/utf8.acceptRanges", laid_unicode_utf8_acceptRanges), ("warehouse/civil.lengths", laid_warehouse_civil_lengths), ("warehouse/token.words", laid_warehouse_token_words), ("warehouse/token.symbols", laid_warehouse_token_symbols), ("warehouse/query.stepWords", laid_warehouse_query_stepWords), ("warehouse/query.used", laid_warehouse_query_used), ("unicode/utf8.first", laid_unicode_utf8_first)], narrowed := true }
def QueryFormatsUptoSaid : Prop := queryFormatsUptoRow.holds Tryz.pinned (OpenSpec.upto queryFormatsSpec)

/-- 'warehouselaw11.QueryRoundTrips', WHERE WHAT IT READS IS OF BULK AT MOST 1048576: true; the input reads as it did. -/
def queryRoundTripsUptoRow : OpenClaim := { program := "ytmbeeefkpgfgmaagreatdoor", sum := "dac59aeec512729755b8663f62dde4c4f69426f6ba92755c8f843dad793a3113", func := "warehouse/warehouselaw11.QueryRoundTrips", spec := "queryRoundTrips", inPlace := ["internal/bytealg.IndexByteString", "internal/bytealg.IndexString", "internal/bytealg.CountString", "internal/abi.NoEscape", "internal/bytealg.MakeNoZero"], unfollowed := true, recurses := true, named := ["warehouse/token.symbols", "warehouse/civil.lengths", "internal/bytealg.MaxLen", "warehouse/token.words", "warehouse/query.used", "warehouse/query.stepWords", "internal/strconv.uint64pow10", "math/bits.deBruijn32tab", "math/bits.deBruijn64tab", "unicode/utf8.first", "unicode/utf8.acceptRanges"], apart := false, laid := [("math/bits.deBruijn32tab", laid_math_bits_deBruijn32tab), ("math/bits.deBruijn64tab", laid_math_bits_deBruijn64tab), ("internal/strconv.uint64pow10", laid_internal_strconv_uint64pow10), ("unicode/utf8.acceptRanges", laid_unicode_utf8_acceptRanges), ("warehouse/civil.lengths", laid_warehouse_civil_lengths), ("warehouse/token.words", laid_warehouse_token_words), ("warehouse/token.symbols", laid_warehouse_token_symbols), ("warehouse/query.stepWords", laid_warehouse_query_stepWords), ("warehouse/query.used", laid_warehouse_query_used), ("unicode/utf8.first", laid_unicode_utf8_first)], narrowed := true }
def QueryRoundTripsUptoSaid : Prop := queryRoundTripsUptoRow.holds Tryz.pinned (OpenSpec.upto queryRoundTripsSpec)

end Rows
end Go.Proofs.YtmbeeefkpgfgmaaGreatDoor
