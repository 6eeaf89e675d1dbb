/-
  NARROWER THAN 'FOR EVERY INPUT', by the rows' own cells (each row's printed sentence says how): SinkTakes: laid · SinkComplies: laid · SinkFree: laid · SinkNames: laid · SinkReports: laid · ScriptReady: laid · ScriptBelow: laid · ScriptOnce: laid · ScriptOut: laid · ScriptStarts: laid.
  DERIVED. THE GIVEN ROWS OF THIS SEAT. 10 by the template 'for every input the law returns true; each argument reads behind the call as it read before'; 0 by the template 'total and deterministic' (their statements: YtfgphjencdhdgaaGreatDoorTotals.lean).
  GIVEN WITH THE SEED: the statements are not yours to turn. If you find one false, say at which input.
  Laid BY PROGRAM, IN A SANDBOX (cutbox-rows.mjs): the forced cells as the released guide's own fill.sh prints them over the translation e729706fd4a807d7… (all of the seat's roots in one cut). By AI agents, Wed Nov 11 2026. No macro, syntax, notation, axiom, sorry.
-/
import Derived.Test.YtfgphjencdhdgaaGreatDoorChecked
import GoSem.PinnedTables
import GoSem.Claim
import GoSem.ClaimJoined
import GoSem.ClaimMapViews
import Derived.JoinedTies
import Derived.KernelRfl
namespace Go.Proofs.YtfgphjencdhdgaaGreatDoor
/- THE CELL 'sum', in the pinned program and in every row, IS THE sha256 OF THE DUMP (.gsa) THAT YtfgphjencdhdgaaGreatDoorProg.lean LOADS. Nothing in Lean hashes anything: it is a label: what it is worth is what the hold of that sum in a sandbox is worth. -/
noncomputable def Tryz.pinned : Pinned := { name := "ytfgphjencdhdgaagreatdoor", sum := "e729706fd4a807d7cbc95ff842dcb41b0b7f479f57aceaeaa8120a5effceada3", checked := Tryz.checked }
namespace Rows
def none {H : Type} : Left H := { results := [], args := [] }

/- WHAT THE LISTED PACKAGE-LEVEL VARIABLES READ AS WHEN THE CALL BEGINS. Each datum BY PROGRAM (the guide's laid-datum.mjs) off the statement by which the dump's own 'gosem.cut.vars' lays the variable. In a bare row this is a premise. The card (YtfgphjencdhdgaaGreatDoorCards.lean) ties it to the program's text. -/
def laid_math_bits_deBruijn32tab {H : Type} : DataW H := .agg [.lit (.int .u8 0), .lit (.int .u8 1), .lit (.int .u8 28), .lit (.int .u8 2), .lit (.int .u8 29), .lit (.int .u8 14), .lit (.int .u8 24), .lit (.int .u8 3), .lit (.int .u8 30), .lit (.int .u8 22), .lit (.int .u8 20), .lit (.int .u8 15), .lit (.int .u8 25), .lit (.int .u8 17), .lit (.int .u8 4), .lit (.int .u8 8), .lit (.int .u8 31), .lit (.int .u8 27), .lit (.int .u8 13), .lit (.int .u8 23), .lit (.int .u8 21), .lit (.int .u8 19), .lit (.int .u8 16), .lit (.int .u8 7), .lit (.int .u8 26), .lit (.int .u8 12), .lit (.int .u8 18), .lit (.int .u8 6), .lit (.int .u8 11), .lit (.int .u8 5), .lit (.int .u8 10), .lit (.int .u8 9)]
def laid_math_bits_deBruijn64tab {H : Type} : DataW H := .agg [.lit (.int .u8 0), .lit (.int .u8 1), .lit (.int .u8 56), .lit (.int .u8 2), .lit (.int .u8 57), .lit (.int .u8 49), .lit (.int .u8 28), .lit (.int .u8 3), .lit (.int .u8 61), .lit (.int .u8 58), .lit (.int .u8 42), .lit (.int .u8 50), .lit (.int .u8 38), .lit (.int .u8 29), .lit (.int .u8 17), .lit (.int .u8 4), .lit (.int .u8 62), .lit (.int .u8 47), .lit (.int .u8 59), .lit (.int .u8 36), .lit (.int .u8 45), .lit (.int .u8 43), .lit (.int .u8 51), .lit (.int .u8 22), .lit (.int .u8 53), .lit (.int .u8 39), .lit (.int .u8 33), .lit (.int .u8 30), .lit (.int .u8 24), .lit (.int .u8 18), .lit (.int .u8 12), .lit (.int .u8 5), .lit (.int .u8 63), .lit (.int .u8 55), .lit (.int .u8 48), .lit (.int .u8 27), .lit (.int .u8 60), .lit (.int .u8 41), .lit (.int .u8 37), .lit (.int .u8 16), .lit (.int .u8 46), .lit (.int .u8 35), .lit (.int .u8 44), .lit (.int .u8 21), .lit (.int .u8 52), .lit (.int .u8 32), .lit (.int .u8 23), .lit (.int .u8 11), .lit (.int .u8 54), .lit (.int .u8 26), .lit (.int .u8 40), .lit (.int .u8 15), .lit (.int .u8 34), .lit (.int .u8 20), .lit (.int .u8 31), .lit (.int .u8 10), .lit (.int .u8 25), .lit (.int .u8 14), .lit (.int .u8 19), .lit (.int .u8 9), .lit (.int .u8 13), .lit (.int .u8 8), .lit (.int .u8 7), .lit (.int .u8 6)]
def laid_internal_strconv_uint64pow10 {H : Type} : DataW H := .agg [.lit (.int .u64 1), .lit (.int .u64 10), .lit (.int .u64 100), .lit (.int .u64 1000), .lit (.int .u64 10000), .lit (.int .u64 100000), .lit (.int .u64 1000000), .lit (.int .u64 10000000), .lit (.int .u64 100000000), .lit (.int .u64 1000000000), .lit (.int .u64 10000000000), .lit (.int .u64 100000000000), .lit (.int .u64 1000000000000), .lit (.int .u64 10000000000000), .lit (.int .u64 100000000000000), .lit (.int .u64 1000000000000000), .lit (.int .u64 10000000000000000), .lit (.int .u64 100000000000000000), .lit (.int .u64 1000000000000000000), .lit (.int .u64 10000000000000000000)]
def laid_unicode_utf8_acceptRanges {H : Type} : DataW H := .agg [.agg [.lit (.int .u8 128), .lit (.int .u8 191)], .agg [.lit (.int .u8 160), .lit (.int .u8 191)], .agg [.lit (.int .u8 128), .lit (.int .u8 159)], .agg [.lit (.int .u8 144), .lit (.int .u8 191)], .agg [.lit (.int .u8 128), .lit (.int .u8 143)], .agg [.lit (.int .u8 0), .lit (.int .u8 0)], .agg [.lit (.int .u8 0), .lit (.int .u8 0)], .agg [.lit (.int .u8 0), .lit (.int .u8 0)], .agg [.lit (.int .u8 0), .lit (.int .u8 0)], .agg [.lit (.int .u8 0), .lit (.int .u8 0)], .agg [.lit (.int .u8 0), .lit (.int .u8 0)], .agg [.lit (.int .u8 0), .lit (.int .u8 0)], .agg [.lit (.int .u8 0), .lit (.int .u8 0)], .agg [.lit (.int .u8 0), .lit (.int .u8 0)], .agg [.lit (.int .u8 0), .lit (.int .u8 0)], .agg [.lit (.int .u8 0), .lit (.int .u8 0)]]
def laid_strconv_ErrRange {H : Type} : DataW H := .iface "*errors.errorString" (.ptr (.agg [.lit (.string [118, 97, 108, 117, 101, 32, 111, 117, 116, 32, 111, 102, 32, 114, 97, 110, 103, 101])]))
def laid_strconv_ErrSyntax {H : Type} : DataW H := .iface "*errors.errorString" (.ptr (.agg [.lit (.string [105, 110, 118, 97, 108, 105, 100, 32, 115, 121, 110, 116, 97, 120])]))
def laid_pounce_entity_names {H : Type} : DataW H := .agg [.agg [.lit (.string [97, 109, 112]), .lit (.string [38])], .agg [.lit (.string [108, 116]), .lit (.string [60])], .agg [.lit (.string [103, 116]), .lit (.string [62])], .agg [.lit (.string [113, 117, 111, 116]), .lit (.string [34])], .agg [.lit (.string [97, 112, 111, 115]), .lit (.string [39])], .agg [.lit (.string [110, 98, 115, 112]), .lit (.string [194, 160])], .agg [.lit (.string [99, 111, 108, 111, 110]), .lit (.string [58])], .agg [.lit (.string [108, 112, 97, 114]), .lit (.string [40])], .agg [.lit (.string [114, 112, 97, 114]), .lit (.string [41])], .agg [.lit (.string [116, 97, 98]), .lit (.string [9])]]
/-- One of Go's own tables, pinned by name: the form's constant. -/
def laid_unicode_utf8_first : DataW Unit := Go.Pinned.utf8First

/-- 'pouncelaw20.SinkTakes': WHATEVER THE INPUT: true; the input reads as it did. -/
def sinkTakesSpec : ChangeSpec := { name := "sinkTakes", fn := fun _ => fun
  | [d1, d2, d3, d4] => { results := [.lit (.bool true)], args := [d1, d2, d3, d4] }
  | _ => none }
def sinkTakesRow : OpenClaim := { program := "ytfgphjencdhdgaagreatdoor", sum := "e729706fd4a807d7cbc95ff842dcb41b0b7f479f57aceaeaa8120a5effceada3", func := "pounce/pouncelaw20.SinkTakes", spec := "sinkTakes", inPlace := ["internal/bytealg.IndexByteString", "internal/bytealg.IndexString", "internal/abi.NoEscape"], unfollowed := true, recurses := true, named := ["unicode/utf8.first", "unicode/utf8.acceptRanges", "internal/bytealg.MaxLen", "pounce/entity.names", "strconv.ErrSyntax", "strconv.ErrRange", "internal/strconv.uint64pow10", "math/bits.deBruijn32tab", "math/bits.deBruijn64tab"], plainKeys := false, apart := false, laid := [("math/bits.deBruijn32tab", laid_math_bits_deBruijn32tab), ("math/bits.deBruijn64tab", laid_math_bits_deBruijn64tab), ("internal/strconv.uint64pow10", laid_internal_strconv_uint64pow10), ("unicode/utf8.acceptRanges", laid_unicode_utf8_acceptRanges), ("strconv.ErrRange", laid_strconv_ErrRange), ("strconv.ErrSyntax", laid_strconv_ErrSyntax), ("pounce/entity.names", laid_pounce_entity_names), ("unicode/utf8.first", laid_unicode_utf8_first)] }
def SinkTakesSaid : Prop := sinkTakesRow.holds Tryz.pinned (OpenSpec.ofChange sinkTakesSpec)

/-- ITS FALSE NEIGHBOUR: 'it returns false'. Refute it at one input. -/
def sinkTakesWrong : ChangeSpec := { name := "sinkTakes", fn := fun _ => fun
  | [d1, d2, d3, d4] => { results := [.lit (.bool false)], args := [d1, d2, d3, d4] }
  | _ => none }
def SinkTakesWrongFalsely : Prop := sinkTakesRow.holds Tryz.pinned (OpenSpec.ofChange sinkTakesWrong)

/-- 'pouncelaw20.SinkComplies': WHATEVER THE INPUT: true; the input reads as it did. -/
def sinkCompliesSpec : ChangeSpec := { name := "sinkComplies", fn := fun _ => fun
  | [d1, d2, d3, d4, d5] => { results := [.lit (.bool true)], args := [d1, d2, d3, d4, d5] }
  | _ => none }
def sinkCompliesRow : OpenClaim := { program := "ytfgphjencdhdgaagreatdoor", sum := "e729706fd4a807d7cbc95ff842dcb41b0b7f479f57aceaeaa8120a5effceada3", func := "pounce/pouncelaw20.SinkComplies", spec := "sinkComplies", inPlace := ["internal/bytealg.IndexByteString", "internal/bytealg.IndexString", "internal/abi.NoEscape"], unfollowed := true, recurses := true, named := ["unicode/utf8.first", "unicode/utf8.acceptRanges", "internal/bytealg.MaxLen", "pounce/entity.names", "strconv.ErrSyntax", "strconv.ErrRange", "internal/strconv.uint64pow10", "math/bits.deBruijn32tab", "math/bits.deBruijn64tab"], plainKeys := false, apart := false, laid := [("math/bits.deBruijn32tab", laid_math_bits_deBruijn32tab), ("math/bits.deBruijn64tab", laid_math_bits_deBruijn64tab), ("internal/strconv.uint64pow10", laid_internal_strconv_uint64pow10), ("unicode/utf8.acceptRanges", laid_unicode_utf8_acceptRanges), ("strconv.ErrRange", laid_strconv_ErrRange), ("strconv.ErrSyntax", laid_strconv_ErrSyntax), ("pounce/entity.names", laid_pounce_entity_names), ("unicode/utf8.first", laid_unicode_utf8_first)] }
def SinkCompliesSaid : Prop := sinkCompliesRow.holds Tryz.pinned (OpenSpec.ofChange sinkCompliesSpec)

/-- ITS FALSE NEIGHBOUR: 'it returns false'. Refute it at one input. -/
def sinkCompliesWrong : ChangeSpec := { name := "sinkComplies", fn := fun _ => fun
  | [d1, d2, d3, d4, d5] => { results := [.lit (.bool false)], args := [d1, d2, d3, d4, d5] }
  | _ => none }
def SinkCompliesWrongFalsely : Prop := sinkCompliesRow.holds Tryz.pinned (OpenSpec.ofChange sinkCompliesWrong)

/-- 'pouncelaw20.SinkFree': WHATEVER THE INPUT: true; the input reads as it did. -/
def sinkFreeSpec : ChangeSpec := { name := "sinkFree", fn := fun _ => fun
  | [d1, d2, d3, d4, d5] => { results := [.lit (.bool true)], args := [d1, d2, d3, d4, d5] }
  | _ => none }
def sinkFreeRow : OpenClaim := { program := "ytfgphjencdhdgaagreatdoor", sum := "e729706fd4a807d7cbc95ff842dcb41b0b7f479f57aceaeaa8120a5effceada3", func := "pounce/pouncelaw20.SinkFree", spec := "sinkFree", inPlace := ["internal/bytealg.IndexByteString", "internal/bytealg.IndexString", "internal/abi.NoEscape"], unfollowed := true, recurses := true, named := ["unicode/utf8.first", "unicode/utf8.acceptRanges", "internal/bytealg.MaxLen", "pounce/entity.names", "strconv.ErrSyntax", "strconv.ErrRange", "internal/strconv.uint64pow10", "math/bits.deBruijn32tab", "math/bits.deBruijn64tab"], plainKeys := false, apart := false, laid := [("math/bits.deBruijn32tab", laid_math_bits_deBruijn32tab), ("math/bits.deBruijn64tab", laid_math_bits_deBruijn64tab), ("internal/strconv.uint64pow10", laid_internal_strconv_uint64pow10), ("unicode/utf8.acceptRanges", laid_unicode_utf8_acceptRanges), ("strconv.ErrRange", laid_strconv_ErrRange), ("strconv.ErrSyntax", laid_strconv_ErrSyntax), ("pounce/entity.names", laid_pounce_entity_names), ("unicode/utf8.first", laid_unicode_utf8_first)] }
def SinkFreeSaid : Prop := sinkFreeRow.holds Tryz.pinned (OpenSpec.ofChange sinkFreeSpec)

/-- ITS FALSE NEIGHBOUR: 'it returns false'. Refute it at one input. -/
def sinkFreeWrong : ChangeSpec := { name := "sinkFree", fn := fun _ => fun
  | [d1, d2, d3, d4, d5] => { results := [.lit (.bool false)], args := [d1, d2, d3, d4, d5] }
  | _ => none }
def SinkFreeWrongFalsely : Prop := sinkFreeRow.holds Tryz.pinned (OpenSpec.ofChange sinkFreeWrong)

/-- 'pouncelaw20.SinkNames': WHATEVER THE INPUT: true; the input reads as it did. -/
def sinkNamesSpec : ChangeSpec := { name := "sinkNames", fn := fun _ => fun
  | [d1, d2, d3] => { results := [.lit (.bool true)], args := [d1, d2, d3] }
  | _ => none }
def sinkNamesRow : OpenClaim := { program := "ytfgphjencdhdgaagreatdoor", sum := "e729706fd4a807d7cbc95ff842dcb41b0b7f479f57aceaeaa8120a5effceada3", func := "pounce/pouncelaw20.SinkNames", spec := "sinkNames", inPlace := ["internal/bytealg.IndexByteString", "internal/bytealg.IndexString", "internal/abi.NoEscape"], unfollowed := true, recurses := true, named := ["unicode/utf8.first", "unicode/utf8.acceptRanges", "internal/bytealg.MaxLen", "pounce/entity.names", "strconv.ErrSyntax", "strconv.ErrRange", "internal/strconv.uint64pow10", "math/bits.deBruijn32tab", "math/bits.deBruijn64tab"], plainKeys := false, apart := false, laid := [("math/bits.deBruijn32tab", laid_math_bits_deBruijn32tab), ("math/bits.deBruijn64tab", laid_math_bits_deBruijn64tab), ("internal/strconv.uint64pow10", laid_internal_strconv_uint64pow10), ("unicode/utf8.acceptRanges", laid_unicode_utf8_acceptRanges), ("strconv.ErrRange", laid_strconv_ErrRange), ("strconv.ErrSyntax", laid_strconv_ErrSyntax), ("pounce/entity.names", laid_pounce_entity_names), ("unicode/utf8.first", laid_unicode_utf8_first)] }
def SinkNamesSaid : Prop := sinkNamesRow.holds Tryz.pinned (OpenSpec.ofChange sinkNamesSpec)

/-- ITS FALSE NEIGHBOUR: 'it returns false'. Refute it at one input. -/
def sinkNamesWrong : ChangeSpec := { name := "sinkNames", fn := fun _ => fun
  | [d1, d2, d3] => { results := [.lit (.bool false)], args := [d1, d2, d3] }
  | _ => none }
def SinkNamesWrongFalsely : Prop := sinkNamesRow.holds Tryz.pinned (OpenSpec.ofChange sinkNamesWrong)

/-- 'pouncelaw20.SinkReports': WHATEVER THE INPUT: true; the input reads as it did. -/
def sinkReportsSpec : ChangeSpec := { name := "sinkReports", fn := fun _ => fun
  | [d1, d2, d3] => { results := [.lit (.bool true)], args := [d1, d2, d3] }
  | _ => none }
def sinkReportsRow : OpenClaim := { program := "ytfgphjencdhdgaagreatdoor", sum := "e729706fd4a807d7cbc95ff842dcb41b0b7f479f57aceaeaa8120a5effceada3", func := "pounce/pouncelaw20.SinkReports", spec := "sinkReports", inPlace := ["internal/bytealg.IndexByteString", "internal/bytealg.IndexString", "internal/abi.NoEscape"], unfollowed := true, recurses := true, named := ["unicode/utf8.first", "unicode/utf8.acceptRanges", "internal/bytealg.MaxLen", "pounce/entity.names", "strconv.ErrSyntax", "strconv.ErrRange", "internal/strconv.uint64pow10", "math/bits.deBruijn32tab", "math/bits.deBruijn64tab"], plainKeys := false, apart := false, laid := [("math/bits.deBruijn32tab", laid_math_bits_deBruijn32tab), ("math/bits.deBruijn64tab", laid_math_bits_deBruijn64tab), ("internal/strconv.uint64pow10", laid_internal_strconv_uint64pow10), ("unicode/utf8.acceptRanges", laid_unicode_utf8_acceptRanges), ("strconv.ErrRange", laid_strconv_ErrRange), ("strconv.ErrSyntax", laid_strconv_ErrSyntax), ("pounce/entity.names", laid_pounce_entity_names), ("unicode/utf8.first", laid_unicode_utf8_first)] }
def SinkReportsSaid : Prop := sinkReportsRow.holds Tryz.pinned (OpenSpec.ofChange sinkReportsSpec)

/-- ITS FALSE NEIGHBOUR: 'it returns false'. Refute it at one input. -/
def sinkReportsWrong : ChangeSpec := { name := "sinkReports", fn := fun _ => fun
  | [d1, d2, d3] => { results := [.lit (.bool false)], args := [d1, d2, d3] }
  | _ => none }
def SinkReportsWrongFalsely : Prop := sinkReportsRow.holds Tryz.pinned (OpenSpec.ofChange sinkReportsWrong)

/-- 'pouncelaw18.ScriptReady': WHATEVER THE INPUT: true; the input reads as it did. -/
def scriptReadySpec : ChangeSpec := { name := "scriptReady", fn := fun _ => fun
  | [d1, d2] => { results := [.lit (.bool true)], args := [d1, d2] }
  | _ => none }
def scriptReadyRow : OpenClaim := { program := "ytfgphjencdhdgaagreatdoor", sum := "e729706fd4a807d7cbc95ff842dcb41b0b7f479f57aceaeaa8120a5effceada3", func := "pounce/pouncelaw18.ScriptReady", spec := "scriptReady", inPlace := ["internal/bytealg.IndexByteString", "internal/bytealg.IndexString", "internal/abi.NoEscape", "internal/bytealg.CountString", "internal/bytealg.MakeNoZero"], unfollowed := true, recurses := true, named := ["unicode/utf8.first", "unicode/utf8.acceptRanges", "internal/bytealg.MaxLen", "pounce/entity.names", "strconv.ErrSyntax", "strconv.ErrRange", "internal/strconv.uint64pow10", "math/bits.deBruijn32tab", "math/bits.deBruijn64tab"], plainKeys := false, apart := false, laid := [("math/bits.deBruijn32tab", laid_math_bits_deBruijn32tab), ("math/bits.deBruijn64tab", laid_math_bits_deBruijn64tab), ("internal/strconv.uint64pow10", laid_internal_strconv_uint64pow10), ("unicode/utf8.acceptRanges", laid_unicode_utf8_acceptRanges), ("strconv.ErrRange", laid_strconv_ErrRange), ("strconv.ErrSyntax", laid_strconv_ErrSyntax), ("pounce/entity.names", laid_pounce_entity_names), ("unicode/utf8.first", laid_unicode_utf8_first)] }
def ScriptReadySaid : Prop := scriptReadyRow.holds Tryz.pinned (OpenSpec.ofChange scriptReadySpec)

/-- ITS FALSE NEIGHBOUR: 'it returns false'. Refute it at one input. -/
def scriptReadyWrong : ChangeSpec := { name := "scriptReady", fn := fun _ => fun
  | [d1, d2] => { results := [.lit (.bool false)], args := [d1, d2] }
  | _ => none }
def ScriptReadyWrongFalsely : Prop := scriptReadyRow.holds Tryz.pinned (OpenSpec.ofChange scriptReadyWrong)

/-- 'pouncelaw18.ScriptBelow': WHATEVER THE INPUT: true; the input reads as it did. -/
def scriptBelowSpec : ChangeSpec := { name := "scriptBelow", fn := fun _ => fun
  | [d1, d2] => { results := [.lit (.bool true)], args := [d1, d2] }
  | _ => none }
def scriptBelowRow : OpenClaim := { program := "ytfgphjencdhdgaagreatdoor", sum := "e729706fd4a807d7cbc95ff842dcb41b0b7f479f57aceaeaa8120a5effceada3", func := "pounce/pouncelaw18.ScriptBelow", spec := "scriptBelow", inPlace := ["internal/bytealg.IndexByteString", "internal/bytealg.IndexString", "internal/abi.NoEscape", "internal/bytealg.CountString", "internal/bytealg.MakeNoZero"], unfollowed := true, recurses := true, named := ["unicode/utf8.first", "unicode/utf8.acceptRanges", "internal/bytealg.MaxLen", "pounce/entity.names", "strconv.ErrSyntax", "strconv.ErrRange", "internal/strconv.uint64pow10", "math/bits.deBruijn32tab", "math/bits.deBruijn64tab"], plainKeys := false, apart := false, laid := [("math/bits.deBruijn32tab", laid_math_bits_deBruijn32tab), ("math/bits.deBruijn64tab", laid_math_bits_deBruijn64tab), ("internal/strconv.uint64pow10", laid_internal_strconv_uint64pow10), ("unicode/utf8.acceptRanges", laid_unicode_utf8_acceptRanges), ("strconv.ErrRange", laid_strconv_ErrRange), ("strconv.ErrSyntax", laid_strconv_ErrSyntax), ("pounce/entity.names", laid_pounce_entity_names), ("unicode/utf8.first", laid_unicode_utf8_first)] }
def ScriptBelowSaid : Prop := scriptBelowRow.holds Tryz.pinned (OpenSpec.ofChange scriptBelowSpec)

/-- ITS FALSE NEIGHBOUR: 'it returns false'. Refute it at one input. -/
def scriptBelowWrong : ChangeSpec := { name := "scriptBelow", fn := fun _ => fun
  | [d1, d2] => { results := [.lit (.bool false)], args := [d1, d2] }
  | _ => none }
def ScriptBelowWrongFalsely : Prop := scriptBelowRow.holds Tryz.pinned (OpenSpec.ofChange scriptBelowWrong)

/-- 'pouncelaw18.ScriptOnce': WHATEVER THE INPUT: true; the input reads as it did. -/
def scriptOnceSpec : ChangeSpec := { name := "scriptOnce", fn := fun _ => fun
  | [d1, d2, d3] => { results := [.lit (.bool true)], args := [d1, d2, d3] }
  | _ => none }
def scriptOnceRow : OpenClaim := { program := "ytfgphjencdhdgaagreatdoor", sum := "e729706fd4a807d7cbc95ff842dcb41b0b7f479f57aceaeaa8120a5effceada3", func := "pounce/pouncelaw18.ScriptOnce", spec := "scriptOnce", inPlace := ["internal/bytealg.IndexByteString", "internal/abi.NoEscape", "internal/bytealg.IndexString", "internal/bytealg.CountString", "internal/bytealg.MakeNoZero"], unfollowed := true, recurses := true, named := ["internal/bytealg.MaxLen", "pounce/entity.names", "strconv.ErrSyntax", "strconv.ErrRange", "internal/strconv.uint64pow10", "math/bits.deBruijn32tab", "math/bits.deBruijn64tab", "unicode/utf8.first", "unicode/utf8.acceptRanges"], plainKeys := false, apart := false, laid := [("math/bits.deBruijn32tab", laid_math_bits_deBruijn32tab), ("math/bits.deBruijn64tab", laid_math_bits_deBruijn64tab), ("internal/strconv.uint64pow10", laid_internal_strconv_uint64pow10), ("unicode/utf8.acceptRanges", laid_unicode_utf8_acceptRanges), ("strconv.ErrRange", laid_strconv_ErrRange), ("strconv.ErrSyntax", laid_strconv_ErrSyntax), ("pounce/entity.names", laid_pounce_entity_names), ("unicode/utf8.first", laid_unicode_utf8_first)] }
def ScriptOnceSaid : Prop := scriptOnceRow.holds Tryz.pinned (OpenSpec.ofChange scriptOnceSpec)

/-- ITS FALSE NEIGHBOUR: 'it returns false'. Refute it at one input. -/
def scriptOnceWrong : ChangeSpec := { name := "scriptOnce", fn := fun _ => fun
  | [d1, d2, d3] => { results := [.lit (.bool false)], args := [d1, d2, d3] }
  | _ => none }
def ScriptOnceWrongFalsely : Prop := scriptOnceRow.holds Tryz.pinned (OpenSpec.ofChange scriptOnceWrong)

/-- 'pouncelaw18.ScriptOut': WHATEVER THE INPUT: true; the input reads as it did. -/
def scriptOutSpec : ChangeSpec := { name := "scriptOut", fn := fun _ => fun
  | [d1, d2] => { results := [.lit (.bool true)], args := [d1, d2] }
  | _ => none }
def scriptOutRow : OpenClaim := { program := "ytfgphjencdhdgaagreatdoor", sum := "e729706fd4a807d7cbc95ff842dcb41b0b7f479f57aceaeaa8120a5effceada3", func := "pounce/pouncelaw18.ScriptOut", spec := "scriptOut", inPlace := ["internal/bytealg.IndexByteString", "internal/abi.NoEscape", "internal/bytealg.IndexString", "internal/bytealg.CountString", "internal/bytealg.MakeNoZero"], unfollowed := true, recurses := true, named := ["internal/bytealg.MaxLen", "pounce/entity.names", "strconv.ErrSyntax", "strconv.ErrRange", "internal/strconv.uint64pow10", "math/bits.deBruijn32tab", "math/bits.deBruijn64tab", "unicode/utf8.first", "unicode/utf8.acceptRanges"], plainKeys := false, apart := false, laid := [("math/bits.deBruijn32tab", laid_math_bits_deBruijn32tab), ("math/bits.deBruijn64tab", laid_math_bits_deBruijn64tab), ("internal/strconv.uint64pow10", laid_internal_strconv_uint64pow10), ("unicode/utf8.acceptRanges", laid_unicode_utf8_acceptRanges), ("strconv.ErrRange", laid_strconv_ErrRange), ("strconv.ErrSyntax", laid_strconv_ErrSyntax), ("pounce/entity.names", laid_pounce_entity_names), ("unicode/utf8.first", laid_unicode_utf8_first)] }
def ScriptOutSaid : Prop := scriptOutRow.holds Tryz.pinned (OpenSpec.ofChange scriptOutSpec)

/-- ITS FALSE NEIGHBOUR: 'it returns false'. Refute it at one input. -/
def scriptOutWrong : ChangeSpec := { name := "scriptOut", fn := fun _ => fun
  | [d1, d2] => { results := [.lit (.bool false)], args := [d1, d2] }
  | _ => none }
def ScriptOutWrongFalsely : Prop := scriptOutRow.holds Tryz.pinned (OpenSpec.ofChange scriptOutWrong)

/-- 'pouncelaw18.ScriptStarts': WHATEVER THE INPUT: true; the input reads as it did. -/
def scriptStartsSpec : ChangeSpec := { name := "scriptStarts", fn := fun _ => fun
  | [d1, d2, d3] => { results := [.lit (.bool true)], args := [d1, d2, d3] }
  | _ => none }
def scriptStartsRow : OpenClaim := { program := "ytfgphjencdhdgaagreatdoor", sum := "e729706fd4a807d7cbc95ff842dcb41b0b7f479f57aceaeaa8120a5effceada3", func := "pounce/pouncelaw18.ScriptStarts", spec := "scriptStarts", inPlace := ["internal/bytealg.IndexByteString", "internal/abi.NoEscape", "internal/bytealg.IndexString", "internal/bytealg.CountString", "internal/bytealg.MakeNoZero"], unfollowed := true, recurses := true, named := ["internal/bytealg.MaxLen", "pounce/entity.names", "strconv.ErrSyntax", "strconv.ErrRange", "internal/strconv.uint64pow10", "math/bits.deBruijn32tab", "math/bits.deBruijn64tab", "unicode/utf8.first", "unicode/utf8.acceptRanges"], plainKeys := false, apart := false, laid := [("math/bits.deBruijn32tab", laid_math_bits_deBruijn32tab), ("math/bits.deBruijn64tab", laid_math_bits_deBruijn64tab), ("internal/strconv.uint64pow10", laid_internal_strconv_uint64pow10), ("unicode/utf8.acceptRanges", laid_unicode_utf8_acceptRanges), ("strconv.ErrRange", laid_strconv_ErrRange), ("strconv.ErrSyntax", laid_strconv_ErrSyntax), ("pounce/entity.names", laid_pounce_entity_names), ("unicode/utf8.first", laid_unicode_utf8_first)] }
def ScriptStartsSaid : Prop := scriptStartsRow.holds Tryz.pinned (OpenSpec.ofChange scriptStartsSpec)

/-- ITS FALSE NEIGHBOUR: 'it returns false'. Refute it at one input. -/
def scriptStartsWrong : ChangeSpec := { name := "scriptStarts", fn := fun _ => fun
  | [d1, d2, d3] => { results := [.lit (.bool false)], args := [d1, d2, d3] }
  | _ => none }
def ScriptStartsWrongFalsely : Prop := scriptStartsRow.holds Tryz.pinned (OpenSpec.ofChange scriptStartsWrong)

/- THE SECOND FORM. 'bulk': how many values and letters a reading holds, each counted each time it is reached (what is shared counts as often as it is met; a slice's spare places count too). A statement '..UptoSaid' is the law's where the arguments, and the package variables that the reading takes, are together of bulk at most 1048576: NARROWER than '..Said'. Prove '..Said' where nothing that the law and all that it calls make is longer than what came in: it says more and counts as full. Else prove '..UptoSaid'. A law counts once. -/
mutual
def uptoBulk {H : Type} : DataW H → Nat
  | .lit (.string bytes) => bytes.length + 1
  | .lit _ => 1
  | .nil => 1
  | .ptr d => uptoBulk d + 1
  | .slice elems spare => uptoBulkAll elems + uptoBulkAll spare + 1
  | .agg parts => uptoBulkAll parts + 1
  | .iface _ d => uptoBulk d + 1
  | .map entries => uptoBulkEntries entries + 1
  | .held _ => 1
def uptoBulkAll {H : Type} : List (DataW H) → Nat
  | [] => 0
  | d :: r => uptoBulk d + uptoBulkAll r
def uptoBulkEntries {H : Type} : List (Lit × DataW H) → Nat
  | [] => 0
  | x :: r => uptoBulkEntry x + uptoBulkEntries r
def uptoBulkEntry {H : Type} : Lit × DataW H → Nat
  | (.string bytes, d) => bytes.length + uptoBulk d + 1
  | (_, d) => uptoBulk d + 1
 end
def uptoSmall : (H : Type) → List (DataW H) → Bool := fun _ ds => decide (uptoBulkAll ds ≤ 1048576)
def OpenSpec.upto (s : _root_.Go.ChangeSpec) : _root_.Go.OpenSpec := { _root_.Go.OpenSpec.ofChange s with cond := some uptoSmall }

/-- 'pouncelaw20.SinkTakes', WHERE WHAT IT READS IS OF BULK AT MOST 1048576: true; the input reads as it did. -/
def sinkTakesUptoRow : OpenClaim := { program := "ytfgphjencdhdgaagreatdoor", sum := "e729706fd4a807d7cbc95ff842dcb41b0b7f479f57aceaeaa8120a5effceada3", func := "pounce/pouncelaw20.SinkTakes", spec := "sinkTakes", inPlace := ["internal/bytealg.IndexByteString", "internal/bytealg.IndexString", "internal/abi.NoEscape"], unfollowed := true, recurses := true, named := ["unicode/utf8.first", "unicode/utf8.acceptRanges", "internal/bytealg.MaxLen", "pounce/entity.names", "strconv.ErrSyntax", "strconv.ErrRange", "internal/strconv.uint64pow10", "math/bits.deBruijn32tab", "math/bits.deBruijn64tab"], plainKeys := false, apart := false, laid := [("math/bits.deBruijn32tab", laid_math_bits_deBruijn32tab), ("math/bits.deBruijn64tab", laid_math_bits_deBruijn64tab), ("internal/strconv.uint64pow10", laid_internal_strconv_uint64pow10), ("unicode/utf8.acceptRanges", laid_unicode_utf8_acceptRanges), ("strconv.ErrRange", laid_strconv_ErrRange), ("strconv.ErrSyntax", laid_strconv_ErrSyntax), ("pounce/entity.names", laid_pounce_entity_names), ("unicode/utf8.first", laid_unicode_utf8_first)], narrowed := true }
def SinkTakesUptoSaid : Prop := sinkTakesUptoRow.holds Tryz.pinned (OpenSpec.upto sinkTakesSpec)

/-- 'pouncelaw20.SinkComplies', WHERE WHAT IT READS IS OF BULK AT MOST 1048576: true; the input reads as it did. -/
def sinkCompliesUptoRow : OpenClaim := { program := "ytfgphjencdhdgaagreatdoor", sum := "e729706fd4a807d7cbc95ff842dcb41b0b7f479f57aceaeaa8120a5effceada3", func := "pounce/pouncelaw20.SinkComplies", spec := "sinkComplies", inPlace := ["internal/bytealg.IndexByteString", "internal/bytealg.IndexString", "internal/abi.NoEscape"], unfollowed := true, recurses := true, named := ["unicode/utf8.first", "unicode/utf8.acceptRanges", "internal/bytealg.MaxLen", "pounce/entity.names", "strconv.ErrSyntax", "strconv.ErrRange", "internal/strconv.uint64pow10", "math/bits.deBruijn32tab", "math/bits.deBruijn64tab"], plainKeys := false, apart := false, laid := [("math/bits.deBruijn32tab", laid_math_bits_deBruijn32tab), ("math/bits.deBruijn64tab", laid_math_bits_deBruijn64tab), ("internal/strconv.uint64pow10", laid_internal_strconv_uint64pow10), ("unicode/utf8.acceptRanges", laid_unicode_utf8_acceptRanges), ("strconv.ErrRange", laid_strconv_ErrRange), ("strconv.ErrSyntax", laid_strconv_ErrSyntax), ("pounce/entity.names", laid_pounce_entity_names), ("unicode/utf8.first", laid_unicode_utf8_first)], narrowed := true }
def SinkCompliesUptoSaid : Prop := sinkCompliesUptoRow.holds Tryz.pinned (OpenSpec.upto sinkCompliesSpec)

/-- 'pouncelaw20.SinkFree', WHERE WHAT IT READS IS OF BULK AT MOST 1048576: true; the input reads as it did. -/
def sinkFreeUptoRow : OpenClaim := { program := "ytfgphjencdhdgaagreatdoor", sum := "e729706fd4a807d7cbc95ff842dcb41b0b7f479f57aceaeaa8120a5effceada3", func := "pounce/pouncelaw20.SinkFree", spec := "sinkFree", inPlace := ["internal/bytealg.IndexByteString", "internal/bytealg.IndexString", "internal/abi.NoEscape"], unfollowed := true, recurses := true, named := ["unicode/utf8.first", "unicode/utf8.acceptRanges", "internal/bytealg.MaxLen", "pounce/entity.names", "strconv.ErrSyntax", "strconv.ErrRange", "internal/strconv.uint64pow10", "math/bits.deBruijn32tab", "math/bits.deBruijn64tab"], plainKeys := false, apart := false, laid := [("math/bits.deBruijn32tab", laid_math_bits_deBruijn32tab), ("math/bits.deBruijn64tab", laid_math_bits_deBruijn64tab), ("internal/strconv.uint64pow10", laid_internal_strconv_uint64pow10), ("unicode/utf8.acceptRanges", laid_unicode_utf8_acceptRanges), ("strconv.ErrRange", laid_strconv_ErrRange), ("strconv.ErrSyntax", laid_strconv_ErrSyntax), ("pounce/entity.names", laid_pounce_entity_names), ("unicode/utf8.first", laid_unicode_utf8_first)], narrowed := true }
def SinkFreeUptoSaid : Prop := sinkFreeUptoRow.holds Tryz.pinned (OpenSpec.upto sinkFreeSpec)

/-- 'pouncelaw20.SinkNames', WHERE WHAT IT READS IS OF BULK AT MOST 1048576: true; the input reads as it did. -/
def sinkNamesUptoRow : OpenClaim := { program := "ytfgphjencdhdgaagreatdoor", sum := "e729706fd4a807d7cbc95ff842dcb41b0b7f479f57aceaeaa8120a5effceada3", func := "pounce/pouncelaw20.SinkNames", spec := "sinkNames", inPlace := ["internal/bytealg.IndexByteString", "internal/bytealg.IndexString", "internal/abi.NoEscape"], unfollowed := true, recurses := true, named := ["unicode/utf8.first", "unicode/utf8.acceptRanges", "internal/bytealg.MaxLen", "pounce/entity.names", "strconv.ErrSyntax", "strconv.ErrRange", "internal/strconv.uint64pow10", "math/bits.deBruijn32tab", "math/bits.deBruijn64tab"], plainKeys := false, apart := false, laid := [("math/bits.deBruijn32tab", laid_math_bits_deBruijn32tab), ("math/bits.deBruijn64tab", laid_math_bits_deBruijn64tab), ("internal/strconv.uint64pow10", laid_internal_strconv_uint64pow10), ("unicode/utf8.acceptRanges", laid_unicode_utf8_acceptRanges), ("strconv.ErrRange", laid_strconv_ErrRange), ("strconv.ErrSyntax", laid_strconv_ErrSyntax), ("pounce/entity.names", laid_pounce_entity_names), ("unicode/utf8.first", laid_unicode_utf8_first)], narrowed := true }
def SinkNamesUptoSaid : Prop := sinkNamesUptoRow.holds Tryz.pinned (OpenSpec.upto sinkNamesSpec)

/-- 'pouncelaw20.SinkReports', WHERE WHAT IT READS IS OF BULK AT MOST 1048576: true; the input reads as it did. -/
def sinkReportsUptoRow : OpenClaim := { program := "ytfgphjencdhdgaagreatdoor", sum := "e729706fd4a807d7cbc95ff842dcb41b0b7f479f57aceaeaa8120a5effceada3", func := "pounce/pouncelaw20.SinkReports", spec := "sinkReports", inPlace := ["internal/bytealg.IndexByteString", "internal/bytealg.IndexString", "internal/abi.NoEscape"], unfollowed := true, recurses := true, named := ["unicode/utf8.first", "unicode/utf8.acceptRanges", "internal/bytealg.MaxLen", "pounce/entity.names", "strconv.ErrSyntax", "strconv.ErrRange", "internal/strconv.uint64pow10", "math/bits.deBruijn32tab", "math/bits.deBruijn64tab"], plainKeys := false, apart := false, laid := [("math/bits.deBruijn32tab", laid_math_bits_deBruijn32tab), ("math/bits.deBruijn64tab", laid_math_bits_deBruijn64tab), ("internal/strconv.uint64pow10", laid_internal_strconv_uint64pow10), ("unicode/utf8.acceptRanges", laid_unicode_utf8_acceptRanges), ("strconv.ErrRange", laid_strconv_ErrRange), ("strconv.ErrSyntax", laid_strconv_ErrSyntax), ("pounce/entity.names", laid_pounce_entity_names), ("unicode/utf8.first", laid_unicode_utf8_first)], narrowed := true }
def SinkReportsUptoSaid : Prop := sinkReportsUptoRow.holds Tryz.pinned (OpenSpec.upto sinkReportsSpec)

/-- 'pouncelaw18.ScriptReady', WHERE WHAT IT READS IS OF BULK AT MOST 1048576: true; the input reads as it did. -/
def scriptReadyUptoRow : OpenClaim := { program := "ytfgphjencdhdgaagreatdoor", sum := "e729706fd4a807d7cbc95ff842dcb41b0b7f479f57aceaeaa8120a5effceada3", func := "pounce/pouncelaw18.ScriptReady", spec := "scriptReady", inPlace := ["internal/bytealg.IndexByteString", "internal/bytealg.IndexString", "internal/abi.NoEscape", "internal/bytealg.CountString", "internal/bytealg.MakeNoZero"], unfollowed := true, recurses := true, named := ["unicode/utf8.first", "unicode/utf8.acceptRanges", "internal/bytealg.MaxLen", "pounce/entity.names", "strconv.ErrSyntax", "strconv.ErrRange", "internal/strconv.uint64pow10", "math/bits.deBruijn32tab", "math/bits.deBruijn64tab"], plainKeys := false, apart := false, laid := [("math/bits.deBruijn32tab", laid_math_bits_deBruijn32tab), ("math/bits.deBruijn64tab", laid_math_bits_deBruijn64tab), ("internal/strconv.uint64pow10", laid_internal_strconv_uint64pow10), ("unicode/utf8.acceptRanges", laid_unicode_utf8_acceptRanges), ("strconv.ErrRange", laid_strconv_ErrRange), ("strconv.ErrSyntax", laid_strconv_ErrSyntax), ("pounce/entity.names", laid_pounce_entity_names), ("unicode/utf8.first", laid_unicode_utf8_first)], narrowed := true }
def ScriptReadyUptoSaid : Prop := scriptReadyUptoRow.holds Tryz.pinned (OpenSpec.upto scriptReadySpec)

/-- 'pouncelaw18.ScriptBelow', WHERE WHAT IT READS IS OF BULK AT MOST 1048576: true; the input reads as it did. -/
def scriptBelowUptoRow : OpenClaim := { program := "ytfgphjencdhdgaagreatdoor", sum := "e729706fd4a807d7cbc95ff842dcb41b0b7f479f57aceaeaa8120a5effceada3", func := "pounce/pouncelaw18.ScriptBelow", spec := "scriptBelow", inPlace := ["internal/bytealg.IndexByteString", "internal/bytealg.IndexString", "internal/abi.NoEscape", "internal/bytealg.CountString", "internal/bytealg.MakeNoZero"], unfollowed := true, recurses := true, named := ["unicode/utf8.first", "unicode/utf8.acceptRanges", "internal/bytealg.MaxLen", "pounce/entity.names", "strconv.ErrSyntax", "strconv.ErrRange", "internal/strconv.uint64pow10", "math/bits.deBruijn32tab", "math/bits.deBruijn64tab"], plainKeys := false, apart := false, laid := [("math/bits.deBruijn32tab", laid_math_bits_deBruijn32tab), ("math/bits.deBruijn64tab", laid_math_bits_deBruijn64tab), ("internal/strconv.uint64pow10", laid_internal_strconv_uint64pow10), ("unicode/utf8.acceptRanges", laid_unicode_utf8_acceptRanges), ("strconv.ErrRange", laid_strconv_ErrRange), ("strconv.ErrSyntax", laid_strconv_ErrSyntax), ("pounce/entity.names", laid_pounce_entity_names), ("unicode/utf8.first", laid_unicode_utf8_first)], narrowed := true }
def ScriptBelowUptoSaid : Prop := scriptBelowUptoRow.holds Tryz.pinned (OpenSpec.upto scriptBelowSpec)

/-- 'pouncelaw18.ScriptOnce', WHERE WHAT IT READS IS OF BULK AT MOST 1048576: true; the input reads as it did. -/
def scriptOnceUptoRow : OpenClaim := { program := "ytfgphjencdhdgaagreatdoor", sum := "e729706fd4a807d7cbc95ff842dcb41b0b7f479f57aceaeaa8120a5effceada3", func := "pounce/pouncelaw18.ScriptOnce", spec := "scriptOnce", inPlace := ["internal/bytealg.IndexByteString", "internal/abi.NoEscape", "internal/bytealg.IndexString", "internal/bytealg.CountString", "internal/bytealg.MakeNoZero"], unfollowed := true, recurses := true, named := ["internal/bytealg.MaxLen", "pounce/entity.names", "strconv.ErrSyntax", "strconv.ErrRange", "internal/strconv.uint64pow10", "math/bits.deBruijn32tab", "math/bits.deBruijn64tab", "unicode/utf8.first", "unicode/utf8.acceptRanges"], plainKeys := false, apart := false, laid := [("math/bits.deBruijn32tab", laid_math_bits_deBruijn32tab), ("math/bits.deBruijn64tab", laid_math_bits_deBruijn64tab), ("internal/strconv.uint64pow10", laid_internal_strconv_uint64pow10), ("unicode/utf8.acceptRanges", laid_unicode_utf8_acceptRanges), ("strconv.ErrRange", laid_strconv_ErrRange), ("strconv.ErrSyntax", laid_strconv_ErrSyntax), ("pounce/entity.names", laid_pounce_entity_names), ("unicode/utf8.first", laid_unicode_utf8_first)], narrowed := true }
def ScriptOnceUptoSaid : Prop := scriptOnceUptoRow.holds Tryz.pinned (OpenSpec.upto scriptOnceSpec)

/-- 'pouncelaw18.ScriptOut', WHERE WHAT IT READS IS OF BULK AT MOST 1048576: true; the input reads as it did. -/
def scriptOutUptoRow : OpenClaim := { program := "ytfgphjencdhdgaagreatdoor", sum := "e729706fd4a807d7cbc95ff842dcb41b0b7f479f57aceaeaa8120a5effceada3", func := "pounce/pouncelaw18.ScriptOut", spec := "scriptOut", inPlace := ["internal/bytealg.IndexByteString", "internal/abi.NoEscape", "internal/bytealg.IndexString", "internal/bytealg.CountString", "internal/bytealg.MakeNoZero"], unfollowed := true, recurses := true, named := ["internal/bytealg.MaxLen", "pounce/entity.names", "strconv.ErrSyntax", "strconv.ErrRange", "internal/strconv.uint64pow10", "math/bits.deBruijn32tab", "math/bits.deBruijn64tab", "unicode/utf8.first", "unicode/utf8.acceptRanges"], plainKeys := false, apart := false, laid := [("math/bits.deBruijn32tab", laid_math_bits_deBruijn32tab), ("math/bits.deBruijn64tab", laid_math_bits_deBruijn64tab), ("internal/strconv.uint64pow10", laid_internal_strconv_uint64pow10), ("unicode/utf8.acceptRanges", laid_unicode_utf8_acceptRanges), ("strconv.ErrRange", laid_strconv_ErrRange), ("strconv.ErrSyntax", laid_strconv_ErrSyntax), ("pounce/entity.names", laid_pounce_entity_names), ("unicode/utf8.first", laid_unicode_utf8_first)], narrowed := true }
def ScriptOutUptoSaid : Prop := scriptOutUptoRow.holds Tryz.pinned (OpenSpec.upto scriptOutSpec)

/-- 'pouncelaw18.ScriptStarts', WHERE WHAT IT READS IS OF BULK AT MOST 1048576: true; the input reads as it did. -/
def scriptStartsUptoRow : OpenClaim := { program := "ytfgphjencdhdgaagreatdoor", sum := "e729706fd4a807d7cbc95ff842dcb41b0b7f479f57aceaeaa8120a5effceada3", func := "pounce/pouncelaw18.ScriptStarts", spec := "scriptStarts", inPlace := ["internal/bytealg.IndexByteString", "internal/abi.NoEscape", "internal/bytealg.IndexString", "internal/bytealg.CountString", "internal/bytealg.MakeNoZero"], unfollowed := true, recurses := true, named := ["internal/bytealg.MaxLen", "pounce/entity.names", "strconv.ErrSyntax", "strconv.ErrRange", "internal/strconv.uint64pow10", "math/bits.deBruijn32tab", "math/bits.deBruijn64tab", "unicode/utf8.first", "unicode/utf8.acceptRanges"], plainKeys := false, apart := false, laid := [("math/bits.deBruijn32tab", laid_math_bits_deBruijn32tab), ("math/bits.deBruijn64tab", laid_math_bits_deBruijn64tab), ("internal/strconv.uint64pow10", laid_internal_strconv_uint64pow10), ("unicode/utf8.acceptRanges", laid_unicode_utf8_acceptRanges), ("strconv.ErrRange", laid_strconv_ErrRange), ("strconv.ErrSyntax", laid_strconv_ErrSyntax), ("pounce/entity.names", laid_pounce_entity_names), ("unicode/utf8.first", laid_unicode_utf8_first)], narrowed := true }
def ScriptStartsUptoSaid : Prop := scriptStartsUptoRow.holds Tryz.pinned (OpenSpec.upto scriptStartsSpec)

end Rows
end Go.Proofs.YtfgphjencdhdgaaGreatDoor
