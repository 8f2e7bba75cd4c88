/-
  NARROWER THAN 'FOR EVERY INPUT', by the rows' own cells (each row's printed sentence says how): ExprParses: laid · ExprReads: laid · ExprParsesAt: laid · ExprFormats: laid · ExprRoundTrips: laid.
  DERIVED. THE GIVEN ROWS OF THIS SEAT. 5 by the template 'for every input the law returns true; each argument reads behind the call as it read before'; 0 by the template 'total and deterministic' (their statements: YtlfedcbihbigoaaGreatDoorTotals.lean).
  GIVEN WITH THE SEED: the statements are not yours to turn. If you find one false, say at which input.
  Laid BY PROGRAM, IN A SANDBOX (cutbox-rows.mjs): the forced cells as the released guide's own fill.sh prints them over the translation 4a42238d69d933e8… (all of the seat's roots in one cut). By AI agents, Wed Nov 11 2026. No macro, syntax, notation, axiom, sorry.
-/
import Derived.Test.YtlfedcbihbigoaaGreatDoorChecked
import GoSem.PinnedTables
import GoSem.Claim
import GoSem.ClaimJoined
import GoSem.ClaimMapViews
import Derived.JoinedTies
import Derived.KernelRfl
namespace Go.Proofs.YtlfedcbihbigoaaGreatDoor
/- THE CELL 'sum', in the pinned program and in every row, IS THE sha256 OF THE DUMP (.gsa) THAT YtlfedcbihbigoaaGreatDoorProg.lean LOADS. Nothing in Lean hashes anything: it is a label: what it is worth is what the hold of that sum in a sandbox is worth. -/
noncomputable def Tryz.pinned : Pinned := { name := "ytlfedcbihbigoaagreatdoor", sum := "4a42238d69d933e89e795f03ff1c5c4f8f0099a56cd7e3193634abdcf2f046c5", checked := Tryz.checked }
namespace Rows
def none {H : Type} : Left H := { results := [], args := [] }

/- WHAT THE LISTED PACKAGE-LEVEL VARIABLES READ AS WHEN THE CALL BEGINS. Each datum BY PROGRAM (the guide's laid-datum.mjs) off the statement by which the dump's own 'gosem.cut.vars' lays the variable. In a bare row this is a premise. The card (YtlfedcbihbigoaaGreatDoorCards.lean) ties it to the program's text. -/
def laid_math_bits_deBruijn32tab {H : Type} : DataW H := .agg [.lit (.int .u8 0), .lit (.int .u8 1), .lit (.int .u8 28), .lit (.int .u8 2), .lit (.int .u8 29), .lit (.int .u8 14), .lit (.int .u8 24), .lit (.int .u8 3), .lit (.int .u8 30), .lit (.int .u8 22), .lit (.int .u8 20), .lit (.int .u8 15), .lit (.int .u8 25), .lit (.int .u8 17), .lit (.int .u8 4), .lit (.int .u8 8), .lit (.int .u8 31), .lit (.int .u8 27), .lit (.int .u8 13), .lit (.int .u8 23), .lit (.int .u8 21), .lit (.int .u8 19), .lit (.int .u8 16), .lit (.int .u8 7), .lit (.int .u8 26), .lit (.int .u8 12), .lit (.int .u8 18), .lit (.int .u8 6), .lit (.int .u8 11), .lit (.int .u8 5), .lit (.int .u8 10), .lit (.int .u8 9)]
def laid_math_bits_deBruijn64tab {H : Type} : DataW H := .agg [.lit (.int .u8 0), .lit (.int .u8 1), .lit (.int .u8 56), .lit (.int .u8 2), .lit (.int .u8 57), .lit (.int .u8 49), .lit (.int .u8 28), .lit (.int .u8 3), .lit (.int .u8 61), .lit (.int .u8 58), .lit (.int .u8 42), .lit (.int .u8 50), .lit (.int .u8 38), .lit (.int .u8 29), .lit (.int .u8 17), .lit (.int .u8 4), .lit (.int .u8 62), .lit (.int .u8 47), .lit (.int .u8 59), .lit (.int .u8 36), .lit (.int .u8 45), .lit (.int .u8 43), .lit (.int .u8 51), .lit (.int .u8 22), .lit (.int .u8 53), .lit (.int .u8 39), .lit (.int .u8 33), .lit (.int .u8 30), .lit (.int .u8 24), .lit (.int .u8 18), .lit (.int .u8 12), .lit (.int .u8 5), .lit (.int .u8 63), .lit (.int .u8 55), .lit (.int .u8 48), .lit (.int .u8 27), .lit (.int .u8 60), .lit (.int .u8 41), .lit (.int .u8 37), .lit (.int .u8 16), .lit (.int .u8 46), .lit (.int .u8 35), .lit (.int .u8 44), .lit (.int .u8 21), .lit (.int .u8 52), .lit (.int .u8 32), .lit (.int .u8 23), .lit (.int .u8 11), .lit (.int .u8 54), .lit (.int .u8 26), .lit (.int .u8 40), .lit (.int .u8 15), .lit (.int .u8 34), .lit (.int .u8 20), .lit (.int .u8 31), .lit (.int .u8 10), .lit (.int .u8 25), .lit (.int .u8 14), .lit (.int .u8 19), .lit (.int .u8 9), .lit (.int .u8 13), .lit (.int .u8 8), .lit (.int .u8 7), .lit (.int .u8 6)]
def laid_internal_strconv_uint64pow10 {H : Type} : DataW H := .agg [.lit (.int .u64 1), .lit (.int .u64 10), .lit (.int .u64 100), .lit (.int .u64 1000), .lit (.int .u64 10000), .lit (.int .u64 100000), .lit (.int .u64 1000000), .lit (.int .u64 10000000), .lit (.int .u64 100000000), .lit (.int .u64 1000000000), .lit (.int .u64 10000000000), .lit (.int .u64 100000000000), .lit (.int .u64 1000000000000), .lit (.int .u64 10000000000000), .lit (.int .u64 100000000000000), .lit (.int .u64 1000000000000000), .lit (.int .u64 10000000000000000), .lit (.int .u64 100000000000000000), .lit (.int .u64 1000000000000000000), .lit (.int .u64 10000000000000000000)]
def laid_unicode_utf8_acceptRanges {H : Type} : DataW H := .agg [.agg [.lit (.int .u8 128), .lit (.int .u8 191)], .agg [.lit (.int .u8 160), .lit (.int .u8 191)], .agg [.lit (.int .u8 128), .lit (.int .u8 159)], .agg [.lit (.int .u8 144), .lit (.int .u8 191)], .agg [.lit (.int .u8 128), .lit (.int .u8 143)], .agg [.lit (.int .u8 0), .lit (.int .u8 0)], .agg [.lit (.int .u8 0), .lit (.int .u8 0)], .agg [.lit (.int .u8 0), .lit (.int .u8 0)], .agg [.lit (.int .u8 0), .lit (.int .u8 0)], .agg [.lit (.int .u8 0), .lit (.int .u8 0)], .agg [.lit (.int .u8 0), .lit (.int .u8 0)], .agg [.lit (.int .u8 0), .lit (.int .u8 0)], .agg [.lit (.int .u8 0), .lit (.int .u8 0)], .agg [.lit (.int .u8 0), .lit (.int .u8 0)], .agg [.lit (.int .u8 0), .lit (.int .u8 0)], .agg [.lit (.int .u8 0), .lit (.int .u8 0)]]
def laid_warehouse_civil_lengths {H : Type} : DataW H := .agg [.lit (.int .i64 31), .lit (.int .i64 28), .lit (.int .i64 31), .lit (.int .i64 30), .lit (.int .i64 31), .lit (.int .i64 30), .lit (.int .i64 31), .lit (.int .i64 31), .lit (.int .i64 30), .lit (.int .i64 31), .lit (.int .i64 30), .lit (.int .i64 31)]
def laid_warehouse_token_words {H : Type} : DataW H := .slice [.lit (.string [97, 110, 100]), .lit (.string [111, 114]), .lit (.string [110, 111, 116]), .lit (.string [110, 117, 108, 108]), .lit (.string [116, 114, 117, 101]), .lit (.string [102, 97, 108, 115, 101]), .lit (.string [98, 121]), .lit (.string [115, 101, 108, 102])] []
def laid_warehouse_token_symbols {H : Type} : DataW H := .slice [.lit (.string [43, 43]), .lit (.string [60, 61]), .lit (.string [62, 61]), .lit (.string [33, 61]), .lit (.string [40]), .lit (.string [41]), .lit (.string [44]), .lit (.string [59]), .lit (.string [58]), .lit (.string [124]), .lit (.string [61]), .lit (.string [43]), .lit (.string [45]), .lit (.string [42]), .lit (.string [47]), .lit (.string [37]), .lit (.string [60]), .lit (.string [62])] []
/-- One of Go's own tables, pinned by name: the form's constant. -/
def laid_unicode_utf8_first : DataW Unit := Go.Pinned.utf8First

/-- 'warehouselaw8.ExprParses': WHATEVER THE INPUT: true; the input reads as it did. -/
def exprParsesSpec : ChangeSpec := { name := "exprParses", fn := fun _ => fun
  | [d1, d2, d3] => { results := [.lit (.bool true)], args := [d1, d2, d3] }
  | _ => none }
def exprParsesRow : OpenClaim := { program := "ytlfedcbihbigoaagreatdoor", sum := "4a42238d69d933e89e795f03ff1c5c4f8f0099a56cd7e3193634abdcf2f046c5", func := "warehouse/warehouselaw8.ExprParses", spec := "exprParses", inPlace := ["internal/bytealg.IndexByteString", "internal/bytealg.IndexString", "internal/bytealg.CountString", "internal/abi.NoEscape", "internal/bytealg.MakeNoZero"], unfollowed := true, recurses := true, named := ["warehouse/token.symbols", "warehouse/civil.lengths", "internal/bytealg.MaxLen", "warehouse/token.words", "internal/strconv.uint64pow10", "math/bits.deBruijn32tab", "math/bits.deBruijn64tab", "unicode/utf8.first", "unicode/utf8.acceptRanges"], apart := false, laid := [("math/bits.deBruijn32tab", laid_math_bits_deBruijn32tab), ("math/bits.deBruijn64tab", laid_math_bits_deBruijn64tab), ("internal/strconv.uint64pow10", laid_internal_strconv_uint64pow10), ("unicode/utf8.acceptRanges", laid_unicode_utf8_acceptRanges), ("warehouse/civil.lengths", laid_warehouse_civil_lengths), ("warehouse/token.words", laid_warehouse_token_words), ("warehouse/token.symbols", laid_warehouse_token_symbols), ("unicode/utf8.first", laid_unicode_utf8_first)] }
def ExprParsesSaid : Prop := exprParsesRow.holds Tryz.pinned (OpenSpec.ofChange exprParsesSpec)

/-- ITS FALSE NEIGHBOUR: 'it returns false'. Refute it at one input. -/
def exprParsesWrong : ChangeSpec := { name := "exprParses", fn := fun _ => fun
  | [d1, d2, d3] => { results := [.lit (.bool false)], args := [d1, d2, d3] }
  | _ => none }
def ExprParsesWrongFalsely : Prop := exprParsesRow.holds Tryz.pinned (OpenSpec.ofChange exprParsesWrong)

/-- 'warehouselaw8.ExprReads': WHATEVER THE INPUT: true; the input reads as it did. -/
def exprReadsSpec : ChangeSpec := { name := "exprReads", fn := fun _ => fun
  | [d1, d2, d3, d4, d5] => { results := [.lit (.bool true)], args := [d1, d2, d3, d4, d5] }
  | _ => none }
def exprReadsRow : OpenClaim := { program := "ytlfedcbihbigoaagreatdoor", sum := "4a42238d69d933e89e795f03ff1c5c4f8f0099a56cd7e3193634abdcf2f046c5", func := "warehouse/warehouselaw8.ExprReads", spec := "exprReads", inPlace := ["internal/bytealg.IndexByteString", "internal/bytealg.IndexString", "internal/bytealg.CountString", "internal/abi.NoEscape", "internal/bytealg.MakeNoZero"], unfollowed := true, recurses := true, named := ["warehouse/token.symbols", "warehouse/civil.lengths", "internal/bytealg.MaxLen", "warehouse/token.words", "internal/strconv.uint64pow10", "math/bits.deBruijn32tab", "math/bits.deBruijn64tab", "unicode/utf8.first", "unicode/utf8.acceptRanges"], apart := false, laid := [("math/bits.deBruijn32tab", laid_math_bits_deBruijn32tab), ("math/bits.deBruijn64tab", laid_math_bits_deBruijn64tab), ("internal/strconv.uint64pow10", laid_internal_strconv_uint64pow10), ("unicode/utf8.acceptRanges", laid_unicode_utf8_acceptRanges), ("warehouse/civil.lengths", laid_warehouse_civil_lengths), ("warehouse/token.words", laid_warehouse_token_words), ("warehouse/token.symbols", laid_warehouse_token_symbols), ("unicode/utf8.first", laid_unicode_utf8_first)] }
def ExprReadsSaid : Prop := exprReadsRow.holds Tryz.pinned (OpenSpec.ofChange exprReadsSpec)

/-- ITS FALSE NEIGHBOUR: 'it returns false'. Refute it at one input. -/
def exprReadsWrong : ChangeSpec := { name := "exprReads", fn := fun _ => fun
  | [d1, d2, d3, d4, d5] => { results := [.lit (.bool false)], args := [d1, d2, d3, d4, d5] }
  | _ => none }
def ExprReadsWrongFalsely : Prop := exprReadsRow.holds Tryz.pinned (OpenSpec.ofChange exprReadsWrong)

/-- 'warehouselaw8.ExprParsesAt': WHATEVER THE INPUT: true; the input reads as it did. -/
def exprParsesAtSpec : ChangeSpec := { name := "exprParsesAt", fn := fun _ => fun
  | [d1, d2, d3, d4] => { results := [.lit (.bool true)], args := [d1, d2, d3, d4] }
  | _ => none }
def exprParsesAtRow : OpenClaim := { program := "ytlfedcbihbigoaagreatdoor", sum := "4a42238d69d933e89e795f03ff1c5c4f8f0099a56cd7e3193634abdcf2f046c5", func := "warehouse/warehouselaw8.ExprParsesAt", spec := "exprParsesAt", inPlace := ["internal/bytealg.IndexByteString", "internal/bytealg.IndexString", "internal/bytealg.CountString", "internal/abi.NoEscape", "internal/bytealg.MakeNoZero"], unfollowed := true, recurses := true, named := ["warehouse/token.symbols", "warehouse/civil.lengths", "internal/bytealg.MaxLen", "warehouse/token.words", "internal/strconv.uint64pow10", "math/bits.deBruijn32tab", "math/bits.deBruijn64tab", "unicode/utf8.first", "unicode/utf8.acceptRanges"], apart := false, laid := [("math/bits.deBruijn32tab", laid_math_bits_deBruijn32tab), ("math/bits.deBruijn64tab", laid_math_bits_deBruijn64tab), ("internal/strconv.uint64pow10", laid_internal_strconv_uint64pow10), ("unicode/utf8.acceptRanges", laid_unicode_utf8_acceptRanges), ("warehouse/civil.lengths", laid_warehouse_civil_lengths), ("warehouse/token.words", laid_warehouse_token_words), ("warehouse/token.symbols", laid_warehouse_token_symbols), ("unicode/utf8.first", laid_unicode_utf8_first)] }
def ExprParsesAtSaid : Prop := exprParsesAtRow.holds Tryz.pinned (OpenSpec.ofChange exprParsesAtSpec)

/-- ITS FALSE NEIGHBOUR: 'it returns false'. Refute it at one input. -/
def exprParsesAtWrong : ChangeSpec := { name := "exprParsesAt", fn := fun _ => fun
  | [d1, d2, d3, d4] => { results := [.lit (.bool false)], args := [d1, d2, d3, d4] }
  | _ => none }
def ExprParsesAtWrongFalsely : Prop := exprParsesAtRow.holds Tryz.pinned (OpenSpec.ofChange exprParsesAtWrong)

/-- 'warehouselaw8.ExprFormats': WHATEVER THE INPUT: true; the input reads as it did. -/
def exprFormatsSpec : ChangeSpec := { name := "exprFormats", fn := fun _ => fun
  | [d1, d2, d3] => { results := [.lit (.bool true)], args := [d1, d2, d3] }
  | _ => none }
def exprFormatsRow : OpenClaim := { program := "ytlfedcbihbigoaagreatdoor", sum := "4a42238d69d933e89e795f03ff1c5c4f8f0099a56cd7e3193634abdcf2f046c5", func := "warehouse/warehouselaw8.ExprFormats", spec := "exprFormats", inPlace := ["internal/bytealg.IndexByteString", "internal/bytealg.IndexString", "internal/bytealg.CountString", "internal/abi.NoEscape", "internal/bytealg.MakeNoZero"], unfollowed := true, recurses := true, named := ["warehouse/token.symbols", "warehouse/civil.lengths", "internal/bytealg.MaxLen", "warehouse/token.words", "internal/strconv.uint64pow10", "math/bits.deBruijn32tab", "math/bits.deBruijn64tab", "unicode/utf8.first", "unicode/utf8.acceptRanges"], apart := false, laid := [("math/bits.deBruijn32tab", laid_math_bits_deBruijn32tab), ("math/bits.deBruijn64tab", laid_math_bits_deBruijn64tab), ("internal/strconv.uint64pow10", laid_internal_strconv_uint64pow10), ("unicode/utf8.acceptRanges", laid_unicode_utf8_acceptRanges), ("warehouse/civil.lengths", laid_warehouse_civil_lengths), ("warehouse/token.words", laid_warehouse_token_words), ("warehouse/token.symbols", laid_warehouse_token_symbols), ("unicode/utf8.first", laid_unicode_utf8_first)] }
def ExprFormatsSaid : Prop := exprFormatsRow.holds Tryz.pinned (OpenSpec.ofChange exprFormatsSpec)

/-- ITS FALSE NEIGHBOUR: 'it returns false'. Refute it at one input. -/
def exprFormatsWrong : ChangeSpec := { name := "exprFormats", fn := fun _ => fun
  | [d1, d2, d3] => { results := [.lit (.bool false)], args := [d1, d2, d3] }
  | _ => none }
def ExprFormatsWrongFalsely : Prop := exprFormatsRow.holds Tryz.pinned (OpenSpec.ofChange exprFormatsWrong)

/-- 'warehouselaw8.ExprRoundTrips': WHATEVER THE INPUT: true; the input reads as it did. -/
def exprRoundTripsSpec : ChangeSpec := { name := "exprRoundTrips", fn := fun _ => fun
  | [d1, d2, d3, d4] => { results := [.lit (.bool true)], args := [d1, d2, d3, d4] }
  | _ => none }
def exprRoundTripsRow : OpenClaim := { program := "ytlfedcbihbigoaagreatdoor", sum := "4a42238d69d933e89e795f03ff1c5c4f8f0099a56cd7e3193634abdcf2f046c5", func := "warehouse/warehouselaw8.ExprRoundTrips", spec := "exprRoundTrips", inPlace := ["internal/bytealg.IndexByteString", "internal/bytealg.IndexString", "internal/bytealg.CountString", "internal/abi.NoEscape", "internal/bytealg.MakeNoZero"], unfollowed := true, recurses := true, named := ["warehouse/token.symbols", "warehouse/civil.lengths", "internal/bytealg.MaxLen", "warehouse/token.words", "internal/strconv.uint64pow10", "math/bits.deBruijn32tab", "math/bits.deBruijn64tab", "unicode/utf8.first", "unicode/utf8.acceptRanges"], apart := false, laid := [("math/bits.deBruijn32tab", laid_math_bits_deBruijn32tab), ("math/bits.deBruijn64tab", laid_math_bits_deBruijn64tab), ("internal/strconv.uint64pow10", laid_internal_strconv_uint64pow10), ("unicode/utf8.acceptRanges", laid_unicode_utf8_acceptRanges), ("warehouse/civil.lengths", laid_warehouse_civil_lengths), ("warehouse/token.words", laid_warehouse_token_words), ("warehouse/token.symbols", laid_warehouse_token_symbols), ("unicode/utf8.first", laid_unicode_utf8_first)] }
def ExprRoundTripsSaid : Prop := exprRoundTripsRow.holds Tryz.pinned (OpenSpec.ofChange exprRoundTripsSpec)

/-- ITS FALSE NEIGHBOUR: 'it returns false'. Refute it at one input. -/
def exprRoundTripsWrong : ChangeSpec := { name := "exprRoundTrips", fn := fun _ => fun
  | [d1, d2, d3, d4] => { results := [.lit (.bool false)], args := [d1, d2, d3, d4] }
  | _ => none }
def ExprRoundTripsWrongFalsely : Prop := exprRoundTripsRow.holds Tryz.pinned (OpenSpec.ofChange exprRoundTripsWrong)

/- THE SECOND FORM. 'bulk': how many values and letters a reading holds, each counted each time it is reached (what is shared counts as often as it is met; a slice's spare places count too). A statement '..UptoSaid' is the law's where the arguments, and the package variables that the reading takes, are together of bulk at most 1048576: NARROWER than '..Said'. Prove '..Said' where nothing that the law and all that it calls make is longer than what came in: it says more and counts as full. Else prove '..UptoSaid'. A law counts once. -/
mutual
def uptoBulk {H : Type} : DataW H → Nat
  | .lit (.string bytes) => bytes.length + 1
  | .lit _ => 1
  | .nil => 1
  | .ptr d => uptoBulk d + 1
  | .slice elems spare => uptoBulkAll elems + uptoBulkAll spare + 1
  | .agg parts => uptoBulkAll parts + 1
  | .iface _ d => uptoBulk d + 1
  | .map entries => uptoBulkEntries entries + 1
  | .held _ => 1
def uptoBulkAll {H : Type} : List (DataW H) → Nat
  | [] => 0
  | d :: r => uptoBulk d + uptoBulkAll r
def uptoBulkEntries {H : Type} : List (Lit × DataW H) → Nat
  | [] => 0
  | x :: r => uptoBulkEntry x + uptoBulkEntries r
def uptoBulkEntry {H : Type} : Lit × DataW H → Nat
  | (.string bytes, d) => bytes.length + uptoBulk d + 1
  | (_, d) => uptoBulk d + 1
 end
def uptoSmall : (H : Type) → List (DataW H) → Bool := fun _ ds => decide (uptoBulkAll ds ≤ 1048576)
def OpenSpec.upto (s : _root_.Go.ChangeSpec) : _root_.Go.OpenSpec := { _root_.Go.OpenSpec.ofChange s with cond := some uptoSmall }

/-- 'warehouselaw8.ExprParses', WHERE WHAT IT READS IS OF BULK AT MOST 1048576: true; the input reads as it did. -/
def exprParsesUptoRow : OpenClaim := { program := "ytlfedcbihbigoaagreatdoor", sum := "4a42238d69d933e89e795f03ff1c5c4f8f0099a56cd7e3193634abdcf2f046c5", func := "warehouse/warehouselaw8.ExprParses", spec := "exprParses", inPlace := ["internal/bytealg.IndexByteString", "internal/bytealg.IndexString", "internal/bytealg.CountString", "internal/abi.NoEscape", "internal/bytealg.MakeNoZero"], unfollowed := true, recurses := true, named := ["warehouse/token.symbols", "warehouse/civil.lengths", "internal/bytealg.MaxLen", "warehouse/token.words", "internal/strconv.uint64pow10", "math/bits.deBruijn32tab", "math/bits.deBruijn64tab", "unicode/utf8.first", "unicode/utf8.acceptRanges"], apart := false, laid := [("math/bits.deBruijn32tab", laid_math_bits_deBruijn32tab), ("math/bits.deBruijn64tab", laid_math_bits_deBruijn64tab), ("internal/strconv.uint64pow10", laid_internal_strconv_uint64pow10), ("unicode/utf8.acceptRanges", laid_unicode_utf8_acceptRanges), ("warehouse/civil.lengths", laid_warehouse_civil_lengths), ("warehouse/token.words", laid_warehouse_token_words), ("warehouse/token.symbols", laid_warehouse_token_symbols), ("unicode/utf8.first", laid_unicode_utf8_first)], narrowed := true }
def ExprParsesUptoSaid : Prop := exprParsesUptoRow.holds Tryz.pinned (OpenSpec.upto exprParsesSpec)

/-- 'warehouselaw8.ExprReads', WHERE WHAT IT READS IS OF BULK AT MOST 1048576: true; the input reads as it did. -/
def exprReadsUptoRow : OpenClaim := { program := "ytlfedcbihbigoaagreatdoor", sum := "4a42238d69d933e89e795f03ff1c5c4f8f0099a56cd7e3193634abdcf2f046c5", func := "warehouse/warehouselaw8.ExprReads", spec := "exprReads", inPlace := ["internal/bytealg.IndexByteString", "internal/bytealg.IndexString", "internal/bytealg.CountString", "internal/abi.NoEscape", "internal/bytealg.MakeNoZero"], unfollowed := true, recurses := true, named := ["warehouse/token.symbols", "warehouse/civil.lengths", "internal/bytealg.MaxLen", "warehouse/token.words", "internal/strconv.uint64pow10", "math/bits.deBruijn32tab", "math/bits.deBruijn64tab", "unicode/utf8.first", "unicode/utf8.acceptRanges"], apart := false, laid := [("math/bits.deBruijn32tab", laid_math_bits_deBruijn32tab), ("math/bits.deBruijn64tab", laid_math_bits_deBruijn64tab), ("internal/strconv.uint64pow10", laid_internal_strconv_uint64pow10), ("unicode/utf8.acceptRanges", laid_unicode_utf8_acceptRanges), ("warehouse/civil.lengths", laid_warehouse_civil_lengths), ("warehouse/token.words", laid_warehouse_token_words), ("warehouse/token.symbols", laid_warehouse_token_symbols), ("unicode/utf8.first", laid_unicode_utf8_first)], narrowed := true }
def ExprReadsUptoSaid : Prop := exprReadsUptoRow.holds Tryz.pinned (OpenSpec.upto exprReadsSpec)

/-- 'warehouselaw8.ExprParsesAt', WHERE WHAT IT READS IS OF BULK AT MOST 1048576: true; the input reads as it did. -/
def exprParsesAtUptoRow : OpenClaim := { program := "ytlfedcbihbigoaagreatdoor", sum := "4a42238d69d933e89e795f03ff1c5c4f8f0099a56cd7e3193634abdcf2f046c5", func := "warehouse/warehouselaw8.ExprParsesAt", spec := "exprParsesAt", inPlace := ["internal/bytealg.IndexByteString", "internal/bytealg.IndexString", "internal/bytealg.CountString", "internal/abi.NoEscape", "internal/bytealg.MakeNoZero"], unfollowed := true, recurses := true, named := ["warehouse/token.symbols", "warehouse/civil.lengths", "internal/bytealg.MaxLen", "warehouse/token.words", "internal/strconv.uint64pow10", "math/bits.deBruijn32tab", "math/bits.deBruijn64tab", "unicode/utf8.first", "unicode/utf8.acceptRanges"], apart := false, laid := [("math/bits.deBruijn32tab", laid_math_bits_deBruijn32tab), ("math/bits.deBruijn64tab", laid_math_bits_deBruijn64tab), ("internal/strconv.uint64pow10", laid_internal_strconv_uint64pow10), ("unicode/utf8.acceptRanges", laid_unicode_utf8_acceptRanges), ("warehouse/civil.lengths", laid_warehouse_civil_lengths), ("warehouse/token.words", laid_warehouse_token_words), ("warehouse/token.symbols", laid_warehouse_token_symbols), ("unicode/utf8.first", laid_unicode_utf8_first)], narrowed := true }
def ExprParsesAtUptoSaid : Prop := exprParsesAtUptoRow.holds Tryz.pinned (OpenSpec.upto exprParsesAtSpec)

/-- 'warehouselaw8.ExprFormats', WHERE WHAT IT READS IS OF BULK AT MOST 1048576: true; the input reads as it did. -/
def exprFormatsUptoRow : OpenClaim := { program := "ytlfedcbihbigoaagreatdoor", sum := "4a42238d69d933e89e795f03ff1c5c4f8f0099a56cd7e3193634abdcf2f046c5", func := "warehouse/warehouselaw8.ExprFormats", spec := "exprFormats", inPlace := ["internal/bytealg.IndexByteString", "internal/bytealg.IndexString", "internal/bytealg.CountString", "internal/abi.NoEscape", "internal/bytealg.MakeNoZero"], unfollowed := true, recurses := true, named := ["warehouse/token.symbols", "warehouse/civil.lengths", "internal/bytealg.MaxLen", "warehouse/token.words", "internal/strconv.uint64pow10", "math/bits.deBruijn32tab", "math/bits.deBruijn64tab", "unicode/utf8.first", "unicode/utf8.acceptRanges"], apart := false, laid := [("math/bits.deBruijn32tab", laid_math_bits_deBruijn32tab), ("math/bits.deBruijn64tab", laid_math_bits_deBruijn64tab), ("internal/strconv.uint64pow10", laid_internal_strconv_uint64pow10), ("unicode/utf8.acceptRanges", laid_unicode_utf8_acceptRanges), ("warehouse/civil.lengths", laid_warehouse_civil_lengths), ("warehouse/token.words", laid_warehouse_token_words), ("warehouse/token.symbols", laid_warehouse_token_symbols), ("unicode/utf8.first", laid_unicode_utf8_first)], narrowed := true }
def ExprFormatsUptoSaid : Prop := exprFormatsUptoRow.holds Tryz.pinned (OpenSpec.upto exprFormatsSpec)

/-- 'warehouselaw8.ExprRoundTrips', WHERE WHAT IT READS IS OF BULK AT MOST 1048576: true; the input reads as it did. -/
def exprRoundTripsUptoRow : OpenClaim := { program := "ytlfedcbihbigoaagreatdoor", sum := "4a42238d69d933e89e795f03ff1c5c4f8f0099a56cd7e3193634abdcf2f046c5", func := "warehouse/warehouselaw8.ExprRoundTrips", spec := "exprRoundTrips", inPlace := ["internal/bytealg.IndexByteString", "internal/bytealg.IndexString", "internal/bytealg.CountString", "internal/abi.NoEscape", "internal/bytealg.MakeNoZero"], unfollowed := true, recurses := true, named := ["warehouse/token.symbols", "warehouse/civil.lengths", "internal/bytealg.MaxLen", "warehouse/token.words", "internal/strconv.uint64pow10", "math/bits.deBruijn32tab", "math/bits.deBruijn64tab", "unicode/utf8.first", "unicode/utf8.acceptRanges"], apart := false, laid := [("math/bits.deBruijn32tab", laid_math_bits_deBruijn32tab), ("math/bits.deBruijn64tab", laid_math_bits_deBruijn64tab), ("internal/strconv.uint64pow10", laid_internal_strconv_uint64pow10), ("unicode/utf8.acceptRanges", laid_unicode_utf8_acceptRanges), ("warehouse/civil.lengths", laid_warehouse_civil_lengths), ("warehouse/token.words", laid_warehouse_token_words), ("warehouse/token.symbols", laid_warehouse_token_symbols), ("unicode/utf8.first", laid_unicode_utf8_first)], narrowed := true }
def ExprRoundTripsUptoSaid : Prop := exprRoundTripsUptoRow.holds Tryz.pinned (OpenSpec.upto exprRoundTripsSpec)

end Rows
end Go.Proofs.YtlfedcbihbigoaaGreatDoor
