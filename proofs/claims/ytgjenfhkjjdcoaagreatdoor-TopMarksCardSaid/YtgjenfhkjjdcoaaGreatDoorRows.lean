/-
  NARROWER THAN 'FOR EVERY INPUT', by the rows' own cells (each row's printed sentence says how): TopMarks: laid · ChainNames: laid · ChainOne: laid · ChainAll: laid · ChainMore: laid · ChainFree: laid · ChainReports: laid.
  DERIVED. THE GIVEN ROWS OF THIS SEAT. 7 by the template 'for every input the law returns true; each argument reads behind the call as it read before'; 0 by the template 'total and deterministic' (their statements: YtgjenfhkjjdcoaaGreatDoorTotals.lean).
  GIVEN WITH THE SEED: the statements are not yours to turn. If you find one false, say at which input.
  Laid BY PROGRAM, IN A SANDBOX (cutbox-rows.mjs): the forced cells as the released guide's own fill.sh prints them over the translation f207f3dcbf4b4cc3… (all of the seat's roots in one cut). By AI agents, Wed Nov 11 2026. No macro, syntax, notation, axiom, sorry.
-/
import Derived.Test.YtgjenfhkjjdcoaaGreatDoorChecked
import GoSem.PinnedTables
import GoSem.Claim
import GoSem.ClaimJoined
import GoSem.ClaimMapViews
import Derived.JoinedTies
import Derived.KernelRfl
namespace Go.Proofs.YtgjenfhkjjdcoaaGreatDoor
/- THE CELL 'sum', in the pinned program and in every row, IS THE sha256 OF THE DUMP (.gsa) THAT YtgjenfhkjjdcoaaGreatDoorProg.lean LOADS. Nothing in Lean hashes anything: it is a label: what it is worth is what the hold of that sum in a sandbox is worth. -/
noncomputable def Tryz.pinned : Pinned := { name := "ytgjenfhkjjdcoaagreatdoor", sum := "f207f3dcbf4b4cc3fa4ef0be446b6ba43d404e9428f81dc299f2e5612eb75ebc", checked := Tryz.checked }
namespace Rows
def none {H : Type} : Left H := { results := [], args := [] }

/- WHAT THE LISTED PACKAGE-LEVEL VARIABLES READ AS WHEN THE CALL BEGINS. Each datum BY PROGRAM (the guide's laid-datum.mjs) off the statement by which the dump's own 'gosem.cut.vars' lays the variable. In a bare row this is a premise. The card (YtgjenfhkjjdcoaaGreatDoorCards.lean) ties it to the program's text. -/
def laid_math_bits_deBruijn32tab {H : Type} : DataW H := .agg [.lit (.int .u8 0), .lit (.int .u8 1), .lit (.int .u8 28), .lit (.int .u8 2), .lit (.int .u8 29), .lit (.int .u8 14), .lit (.int .u8 24), .lit (.int .u8 3), .lit (.int .u8 30), .lit (.int .u8 22), .lit (.int .u8 20), .lit (.int .u8 15), .lit (.int .u8 25), .lit (.int .u8 17), .lit (.int .u8 4), .lit (.int .u8 8), .lit (.int .u8 31), .lit (.int .u8 27), .lit (.int .u8 13), .lit (.int .u8 23), .lit (.int .u8 21), .lit (.int .u8 19), .lit (.int .u8 16), .lit (.int .u8 7), .lit (.int .u8 26), .lit (.int .u8 12), .lit (.int .u8 18), .lit (.int .u8 6), .lit (.int .u8 11), .lit (.int .u8 5), .lit (.int .u8 10), .lit (.int .u8 9)]
def laid_math_bits_deBruijn64tab {H : Type} : DataW H := .agg [.lit (.int .u8 0), .lit (.int .u8 1), .lit (.int .u8 56), .lit (.int .u8 2), .lit (.int .u8 57), .lit (.int .u8 49), .lit (.int .u8 28), .lit (.int .u8 3), .lit (.int .u8 61), .lit (.int .u8 58), .lit (.int .u8 42), .lit (.int .u8 50), .lit (.int .u8 38), .lit (.int .u8 29), .lit (.int .u8 17), .lit (.int .u8 4), .lit (.int .u8 62), .lit (.int .u8 47), .lit (.int .u8 59), .lit (.int .u8 36), .lit (.int .u8 45), .lit (.int .u8 43), .lit (.int .u8 51), .lit (.int .u8 22), .lit (.int .u8 53), .lit (.int .u8 39), .lit (.int .u8 33), .lit (.int .u8 30), .lit (.int .u8 24), .lit (.int .u8 18), .lit (.int .u8 12), .lit (.int .u8 5), .lit (.int .u8 63), .lit (.int .u8 55), .lit (.int .u8 48), .lit (.int .u8 27), .lit (.int .u8 60), .lit (.int .u8 41), .lit (.int .u8 37), .lit (.int .u8 16), .lit (.int .u8 46), .lit (.int .u8 35), .lit (.int .u8 44), .lit (.int .u8 21), .lit (.int .u8 52), .lit (.int .u8 32), .lit (.int .u8 23), .lit (.int .u8 11), .lit (.int .u8 54), .lit (.int .u8 26), .lit (.int .u8 40), .lit (.int .u8 15), .lit (.int .u8 34), .lit (.int .u8 20), .lit (.int .u8 31), .lit (.int .u8 10), .lit (.int .u8 25), .lit (.int .u8 14), .lit (.int .u8 19), .lit (.int .u8 9), .lit (.int .u8 13), .lit (.int .u8 8), .lit (.int .u8 7), .lit (.int .u8 6)]
def laid_internal_strconv_uint64pow10 {H : Type} : DataW H := .agg [.lit (.int .u64 1), .lit (.int .u64 10), .lit (.int .u64 100), .lit (.int .u64 1000), .lit (.int .u64 10000), .lit (.int .u64 100000), .lit (.int .u64 1000000), .lit (.int .u64 10000000), .lit (.int .u64 100000000), .lit (.int .u64 1000000000), .lit (.int .u64 10000000000), .lit (.int .u64 100000000000), .lit (.int .u64 1000000000000), .lit (.int .u64 10000000000000), .lit (.int .u64 100000000000000), .lit (.int .u64 1000000000000000), .lit (.int .u64 10000000000000000), .lit (.int .u64 100000000000000000), .lit (.int .u64 1000000000000000000), .lit (.int .u64 10000000000000000000)]
def laid_pounce_mark_steps {H : Type} : DataW H := .agg [.lit (.int .u64 257), .lit (.int .u64 65539)]
def laid_unicode_utf8_acceptRanges {H : Type} : DataW H := .agg [.agg [.lit (.int .u8 128), .lit (.int .u8 191)], .agg [.lit (.int .u8 160), .lit (.int .u8 191)], .agg [.lit (.int .u8 128), .lit (.int .u8 159)], .agg [.lit (.int .u8 144), .lit (.int .u8 191)], .agg [.lit (.int .u8 128), .lit (.int .u8 143)], .agg [.lit (.int .u8 0), .lit (.int .u8 0)], .agg [.lit (.int .u8 0), .lit (.int .u8 0)], .agg [.lit (.int .u8 0), .lit (.int .u8 0)], .agg [.lit (.int .u8 0), .lit (.int .u8 0)], .agg [.lit (.int .u8 0), .lit (.int .u8 0)], .agg [.lit (.int .u8 0), .lit (.int .u8 0)], .agg [.lit (.int .u8 0), .lit (.int .u8 0)], .agg [.lit (.int .u8 0), .lit (.int .u8 0)], .agg [.lit (.int .u8 0), .lit (.int .u8 0)], .agg [.lit (.int .u8 0), .lit (.int .u8 0)], .agg [.lit (.int .u8 0), .lit (.int .u8 0)]]
def laid_strconv_ErrRange {H : Type} : DataW H := .iface "*errors.errorString" (.ptr (.agg [.lit (.string [118, 97, 108, 117, 101, 32, 111, 117, 116, 32, 111, 102, 32, 114, 97, 110, 103, 101])]))
def laid_strconv_ErrSyntax {H : Type} : DataW H := .iface "*errors.errorString" (.ptr (.agg [.lit (.string [105, 110, 118, 97, 108, 105, 100, 32, 115, 121, 110, 116, 97, 120])]))
def laid_pounce_source_kept {H : Type} : DataW H := .agg [.lit (.string []), .lit (.string [39, 110, 111, 110, 101, 39]), .lit (.string [39, 115, 101, 108, 102, 39]), .lit (.string [39, 117, 110, 115, 97, 102, 101, 45, 105, 110, 108, 105, 110, 101, 39]), .lit (.string [39, 117, 110, 115, 97, 102, 101, 45, 101, 118, 97, 108, 39]), .lit (.string [39, 119, 97, 115, 109, 45, 117, 110, 115, 97, 102, 101, 45, 101, 118, 97, 108, 39]), .lit (.string [39, 115, 116, 114, 105, 99, 116, 45, 100, 121, 110, 97, 109, 105, 99, 39]), .lit (.string [39, 117, 110, 115, 97, 102, 101, 45, 104, 97, 115, 104, 101, 115, 39]), .lit (.string [39, 114, 101, 112, 111, 114, 116, 45, 115, 97, 109, 112, 108, 101, 39])]
/-- One of Go's own tables, pinned by name: the form's constant. -/
def laid_unicode_utf8_first : DataW Unit := Go.Pinned.utf8First

/-- 'pouncetop.TopMarks': WHATEVER THE INPUT: true; the input reads as it did. -/
def topMarksSpec : ChangeSpec := { name := "topMarks", fn := fun _ => fun
  | [d1, d2] => { results := [.lit (.bool true)], args := [d1, d2] }
  | _ => none }
def topMarksRow : OpenClaim := { program := "ytgjenfhkjjdcoaagreatdoor", sum := "f207f3dcbf4b4cc3fa4ef0be446b6ba43d404e9428f81dc299f2e5612eb75ebc", func := "pounce/pouncetop.TopMarks", spec := "topMarks", inPlace := ["internal/abi.NoEscape", "internal/bytealg.IndexByteString", "internal/bytealg.IndexString", "internal/bytealg.CountString", "internal/bytealg.MakeNoZero"], unfollowed := true, recurses := true, named := ["pounce/mark.steps", "unicode/utf8.first", "unicode/utf8.acceptRanges", "pounce/source.kept", "internal/bytealg.MaxLen", "strconv.ErrSyntax", "strconv.ErrRange", "internal/strconv.uint64pow10", "math/bits.deBruijn32tab", "math/bits.deBruijn64tab"], apart := false, laid := [("math/bits.deBruijn32tab", laid_math_bits_deBruijn32tab), ("math/bits.deBruijn64tab", laid_math_bits_deBruijn64tab), ("internal/strconv.uint64pow10", laid_internal_strconv_uint64pow10), ("pounce/mark.steps", laid_pounce_mark_steps), ("unicode/utf8.acceptRanges", laid_unicode_utf8_acceptRanges), ("strconv.ErrRange", laid_strconv_ErrRange), ("strconv.ErrSyntax", laid_strconv_ErrSyntax), ("pounce/source.kept", laid_pounce_source_kept), ("unicode/utf8.first", laid_unicode_utf8_first)] }
def TopMarksSaid : Prop := topMarksRow.holds Tryz.pinned (OpenSpec.ofChange topMarksSpec)

/-- ITS FALSE NEIGHBOUR: 'it returns false'. Refute it at one input. -/
def topMarksWrong : ChangeSpec := { name := "topMarks", fn := fun _ => fun
  | [d1, d2] => { results := [.lit (.bool false)], args := [d1, d2] }
  | _ => none }
def TopMarksWrongFalsely : Prop := topMarksRow.holds Tryz.pinned (OpenSpec.ofChange topMarksWrong)

/-- 'pouncelaw12.ChainNames': WHATEVER THE INPUT: true; the input reads as it did. -/
def chainNamesSpec : ChangeSpec := { name := "chainNames", fn := fun _ => fun
  | [d1, d2] => { results := [.lit (.bool true)], args := [d1, d2] }
  | _ => none }
def chainNamesRow : OpenClaim := { program := "ytgjenfhkjjdcoaagreatdoor", sum := "f207f3dcbf4b4cc3fa4ef0be446b6ba43d404e9428f81dc299f2e5612eb75ebc", func := "pounce/pouncelaw12.ChainNames", spec := "chainNames", inPlace := ["internal/bytealg.IndexByteString", "internal/bytealg.IndexString", "internal/bytealg.CountString", "internal/abi.NoEscape", "internal/bytealg.MakeNoZero"], unfollowed := true, recurses := true, named := ["pounce/source.kept", "internal/bytealg.MaxLen", "unicode/utf8.first", "unicode/utf8.acceptRanges", "strconv.ErrSyntax", "strconv.ErrRange", "internal/strconv.uint64pow10", "math/bits.deBruijn32tab", "math/bits.deBruijn64tab", "pounce/mark.steps"], apart := false, laid := [("math/bits.deBruijn32tab", laid_math_bits_deBruijn32tab), ("math/bits.deBruijn64tab", laid_math_bits_deBruijn64tab), ("internal/strconv.uint64pow10", laid_internal_strconv_uint64pow10), ("pounce/mark.steps", laid_pounce_mark_steps), ("unicode/utf8.acceptRanges", laid_unicode_utf8_acceptRanges), ("strconv.ErrRange", laid_strconv_ErrRange), ("strconv.ErrSyntax", laid_strconv_ErrSyntax), ("pounce/source.kept", laid_pounce_source_kept), ("unicode/utf8.first", laid_unicode_utf8_first)] }
def ChainNamesSaid : Prop := chainNamesRow.holds Tryz.pinned (OpenSpec.ofChange chainNamesSpec)

/-- ITS FALSE NEIGHBOUR: 'it returns false'. Refute it at one input. -/
def chainNamesWrong : ChangeSpec := { name := "chainNames", fn := fun _ => fun
  | [d1, d2] => { results := [.lit (.bool false)], args := [d1, d2] }
  | _ => none }
def ChainNamesWrongFalsely : Prop := chainNamesRow.holds Tryz.pinned (OpenSpec.ofChange chainNamesWrong)

/-- 'pouncelaw12.ChainOne': WHATEVER THE INPUT: true; the input reads as it did. -/
def chainOneSpec : ChangeSpec := { name := "chainOne", fn := fun _ => fun
  | [d1, d2] => { results := [.lit (.bool true)], args := [d1, d2] }
  | _ => none }
def chainOneRow : OpenClaim := { program := "ytgjenfhkjjdcoaagreatdoor", sum := "f207f3dcbf4b4cc3fa4ef0be446b6ba43d404e9428f81dc299f2e5612eb75ebc", func := "pounce/pouncelaw12.ChainOne", spec := "chainOne", inPlace := ["internal/bytealg.IndexByteString", "internal/bytealg.IndexString", "internal/bytealg.CountString", "internal/abi.NoEscape", "internal/bytealg.MakeNoZero"], unfollowed := true, recurses := true, named := ["pounce/source.kept", "internal/bytealg.MaxLen", "unicode/utf8.first", "unicode/utf8.acceptRanges", "strconv.ErrSyntax", "strconv.ErrRange", "internal/strconv.uint64pow10", "math/bits.deBruijn32tab", "math/bits.deBruijn64tab", "pounce/mark.steps"], apart := false, laid := [("math/bits.deBruijn32tab", laid_math_bits_deBruijn32tab), ("math/bits.deBruijn64tab", laid_math_bits_deBruijn64tab), ("internal/strconv.uint64pow10", laid_internal_strconv_uint64pow10), ("pounce/mark.steps", laid_pounce_mark_steps), ("unicode/utf8.acceptRanges", laid_unicode_utf8_acceptRanges), ("strconv.ErrRange", laid_strconv_ErrRange), ("strconv.ErrSyntax", laid_strconv_ErrSyntax), ("pounce/source.kept", laid_pounce_source_kept), ("unicode/utf8.first", laid_unicode_utf8_first)] }
def ChainOneSaid : Prop := chainOneRow.holds Tryz.pinned (OpenSpec.ofChange chainOneSpec)

/-- ITS FALSE NEIGHBOUR: 'it returns false'. Refute it at one input. -/
def chainOneWrong : ChangeSpec := { name := "chainOne", fn := fun _ => fun
  | [d1, d2] => { results := [.lit (.bool false)], args := [d1, d2] }
  | _ => none }
def ChainOneWrongFalsely : Prop := chainOneRow.holds Tryz.pinned (OpenSpec.ofChange chainOneWrong)

/-- 'pouncelaw12.ChainAll': WHATEVER THE INPUT: true; the input reads as it did. -/
def chainAllSpec : ChangeSpec := { name := "chainAll", fn := fun _ => fun
  | [d1, d2] => { results := [.lit (.bool true)], args := [d1, d2] }
  | _ => none }
def chainAllRow : OpenClaim := { program := "ytgjenfhkjjdcoaagreatdoor", sum := "f207f3dcbf4b4cc3fa4ef0be446b6ba43d404e9428f81dc299f2e5612eb75ebc", func := "pounce/pouncelaw12.ChainAll", spec := "chainAll", inPlace := ["internal/bytealg.IndexByteString", "internal/bytealg.IndexString", "internal/bytealg.CountString", "internal/abi.NoEscape", "internal/bytealg.MakeNoZero"], unfollowed := true, recurses := true, named := ["unicode/utf8.first", "unicode/utf8.acceptRanges", "pounce/source.kept", "internal/bytealg.MaxLen", "strconv.ErrSyntax", "strconv.ErrRange", "internal/strconv.uint64pow10", "math/bits.deBruijn32tab", "math/bits.deBruijn64tab", "pounce/mark.steps"], apart := false, laid := [("math/bits.deBruijn32tab", laid_math_bits_deBruijn32tab), ("math/bits.deBruijn64tab", laid_math_bits_deBruijn64tab), ("internal/strconv.uint64pow10", laid_internal_strconv_uint64pow10), ("pounce/mark.steps", laid_pounce_mark_steps), ("unicode/utf8.acceptRanges", laid_unicode_utf8_acceptRanges), ("strconv.ErrRange", laid_strconv_ErrRange), ("strconv.ErrSyntax", laid_strconv_ErrSyntax), ("pounce/source.kept", laid_pounce_source_kept), ("unicode/utf8.first", laid_unicode_utf8_first)] }
def ChainAllSaid : Prop := chainAllRow.holds Tryz.pinned (OpenSpec.ofChange chainAllSpec)

/-- ITS FALSE NEIGHBOUR: 'it returns false'. Refute it at one input. -/
def chainAllWrong : ChangeSpec := { name := "chainAll", fn := fun _ => fun
  | [d1, d2] => { results := [.lit (.bool false)], args := [d1, d2] }
  | _ => none }
def ChainAllWrongFalsely : Prop := chainAllRow.holds Tryz.pinned (OpenSpec.ofChange chainAllWrong)

/-- 'pouncelaw12.ChainMore': WHATEVER THE INPUT: true; the input reads as it did. -/
def chainMoreSpec : ChangeSpec := { name := "chainMore", fn := fun _ => fun
  | [d1, d2, d3] => { results := [.lit (.bool true)], args := [d1, d2, d3] }
  | _ => none }
def chainMoreRow : OpenClaim := { program := "ytgjenfhkjjdcoaagreatdoor", sum := "f207f3dcbf4b4cc3fa4ef0be446b6ba43d404e9428f81dc299f2e5612eb75ebc", func := "pounce/pouncelaw12.ChainMore", spec := "chainMore", inPlace := ["internal/bytealg.IndexByteString", "internal/bytealg.IndexString", "internal/bytealg.CountString", "internal/abi.NoEscape", "internal/bytealg.MakeNoZero"], unfollowed := true, recurses := true, named := ["pounce/source.kept", "internal/bytealg.MaxLen", "unicode/utf8.first", "unicode/utf8.acceptRanges", "strconv.ErrSyntax", "strconv.ErrRange", "internal/strconv.uint64pow10", "math/bits.deBruijn32tab", "math/bits.deBruijn64tab", "pounce/mark.steps"], apart := false, laid := [("math/bits.deBruijn32tab", laid_math_bits_deBruijn32tab), ("math/bits.deBruijn64tab", laid_math_bits_deBruijn64tab), ("internal/strconv.uint64pow10", laid_internal_strconv_uint64pow10), ("pounce/mark.steps", laid_pounce_mark_steps), ("unicode/utf8.acceptRanges", laid_unicode_utf8_acceptRanges), ("strconv.ErrRange", laid_strconv_ErrRange), ("strconv.ErrSyntax", laid_strconv_ErrSyntax), ("pounce/source.kept", laid_pounce_source_kept), ("unicode/utf8.first", laid_unicode_utf8_first)] }
def ChainMoreSaid : Prop := chainMoreRow.holds Tryz.pinned (OpenSpec.ofChange chainMoreSpec)

/-- ITS FALSE NEIGHBOUR: 'it returns false'. Refute it at one input. -/
def chainMoreWrong : ChangeSpec := { name := "chainMore", fn := fun _ => fun
  | [d1, d2, d3] => { results := [.lit (.bool false)], args := [d1, d2, d3] }
  | _ => none }
def ChainMoreWrongFalsely : Prop := chainMoreRow.holds Tryz.pinned (OpenSpec.ofChange chainMoreWrong)

/-- 'pouncelaw12.ChainFree': WHATEVER THE INPUT: true; the input reads as it did. -/
def chainFreeSpec : ChangeSpec := { name := "chainFree", fn := fun _ => fun
  | [d1, d2] => { results := [.lit (.bool true)], args := [d1, d2] }
  | _ => none }
def chainFreeRow : OpenClaim := { program := "ytgjenfhkjjdcoaagreatdoor", sum := "f207f3dcbf4b4cc3fa4ef0be446b6ba43d404e9428f81dc299f2e5612eb75ebc", func := "pounce/pouncelaw12.ChainFree", spec := "chainFree", inPlace := ["internal/bytealg.IndexByteString", "internal/bytealg.IndexString", "internal/bytealg.CountString", "internal/abi.NoEscape", "internal/bytealg.MakeNoZero"], unfollowed := true, recurses := true, named := ["pounce/source.kept", "internal/bytealg.MaxLen", "unicode/utf8.first", "unicode/utf8.acceptRanges", "strconv.ErrSyntax", "strconv.ErrRange", "internal/strconv.uint64pow10", "math/bits.deBruijn32tab", "math/bits.deBruijn64tab", "pounce/mark.steps"], apart := false, laid := [("math/bits.deBruijn32tab", laid_math_bits_deBruijn32tab), ("math/bits.deBruijn64tab", laid_math_bits_deBruijn64tab), ("internal/strconv.uint64pow10", laid_internal_strconv_uint64pow10), ("pounce/mark.steps", laid_pounce_mark_steps), ("unicode/utf8.acceptRanges", laid_unicode_utf8_acceptRanges), ("strconv.ErrRange", laid_strconv_ErrRange), ("strconv.ErrSyntax", laid_strconv_ErrSyntax), ("pounce/source.kept", laid_pounce_source_kept), ("unicode/utf8.first", laid_unicode_utf8_first)] }
def ChainFreeSaid : Prop := chainFreeRow.holds Tryz.pinned (OpenSpec.ofChange chainFreeSpec)

/-- ITS FALSE NEIGHBOUR: 'it returns false'. Refute it at one input. -/
def chainFreeWrong : ChangeSpec := { name := "chainFree", fn := fun _ => fun
  | [d1, d2] => { results := [.lit (.bool false)], args := [d1, d2] }
  | _ => none }
def ChainFreeWrongFalsely : Prop := chainFreeRow.holds Tryz.pinned (OpenSpec.ofChange chainFreeWrong)

/-- 'pouncelaw12.ChainReports': WHATEVER THE INPUT: true; the input reads as it did. -/
def chainReportsSpec : ChangeSpec := { name := "chainReports", fn := fun _ => fun
  | [d1, d2] => { results := [.lit (.bool true)], args := [d1, d2] }
  | _ => none }
def chainReportsRow : OpenClaim := { program := "ytgjenfhkjjdcoaagreatdoor", sum := "f207f3dcbf4b4cc3fa4ef0be446b6ba43d404e9428f81dc299f2e5612eb75ebc", func := "pounce/pouncelaw12.ChainReports", spec := "chainReports", inPlace := ["internal/bytealg.IndexByteString", "internal/bytealg.IndexString", "internal/bytealg.CountString", "internal/abi.NoEscape", "internal/bytealg.MakeNoZero"], unfollowed := true, recurses := true, named := ["pounce/source.kept", "internal/bytealg.MaxLen", "unicode/utf8.first", "unicode/utf8.acceptRanges", "strconv.ErrSyntax", "strconv.ErrRange", "internal/strconv.uint64pow10", "math/bits.deBruijn32tab", "math/bits.deBruijn64tab", "pounce/mark.steps"], apart := false, laid := [("math/bits.deBruijn32tab", laid_math_bits_deBruijn32tab), ("math/bits.deBruijn64tab", laid_math_bits_deBruijn64tab), ("internal/strconv.uint64pow10", laid_internal_strconv_uint64pow10), ("pounce/mark.steps", laid_pounce_mark_steps), ("unicode/utf8.acceptRanges", laid_unicode_utf8_acceptRanges), ("strconv.ErrRange", laid_strconv_ErrRange), ("strconv.ErrSyntax", laid_strconv_ErrSyntax), ("pounce/source.kept", laid_pounce_source_kept), ("unicode/utf8.first", laid_unicode_utf8_first)] }
def ChainReportsSaid : Prop := chainReportsRow.holds Tryz.pinned (OpenSpec.ofChange chainReportsSpec)

/-- ITS FALSE NEIGHBOUR: 'it returns false'. Refute it at one input. -/
def chainReportsWrong : ChangeSpec := { name := "chainReports", fn := fun _ => fun
  | [d1, d2] => { results := [.lit (.bool false)], args := [d1, d2] }
  | _ => none }
def ChainReportsWrongFalsely : Prop := chainReportsRow.holds Tryz.pinned (OpenSpec.ofChange chainReportsWrong)

/- THE SECOND FORM. 'bulk': how many values and letters a reading holds, each counted each time it is reached (what is shared counts as often as it is met; a slice's spare places count too). A statement '..UptoSaid' is the law's where the arguments, and the package variables that the reading takes, are together of bulk at most 1048576: NARROWER than '..Said'. Prove '..Said' where nothing that the law and all that it calls make is longer than what came in: it says more and counts as full. Else prove '..UptoSaid'. A law counts once. -/
mutual
def uptoBulk {H : Type} : DataW H → Nat
  | .lit (.string bytes) => bytes.length + 1
  | .lit _ => 1
  | .nil => 1
  | .ptr d => uptoBulk d + 1
  | .slice elems spare => uptoBulkAll elems + uptoBulkAll spare + 1
  | .agg parts => uptoBulkAll parts + 1
  | .iface _ d => uptoBulk d + 1
  | .map entries => uptoBulkEntries entries + 1
  | .held _ => 1
def uptoBulkAll {H : Type} : List (DataW H) → Nat
  | [] => 0
  | d :: r => uptoBulk d + uptoBulkAll r
def uptoBulkEntries {H : Type} : List (Lit × DataW H) → Nat
  | [] => 0
  | x :: r => uptoBulkEntry x + uptoBulkEntries r
def uptoBulkEntry {H : Type} : Lit × DataW H → Nat
  | (.string bytes, d) => bytes.length + uptoBulk d + 1
  | (_, d) => uptoBulk d + 1
 end
def uptoSmall : (H : Type) → List (DataW H) → Bool := fun _ ds => decide (uptoBulkAll ds ≤ 1048576)
def OpenSpec.upto (s : _root_.Go.ChangeSpec) : _root_.Go.OpenSpec := { _root_.Go.OpenSpec.ofChange s with cond := some uptoSmall }

/-- 'pouncetop.TopMarks', WHERE WHAT IT READS IS OF BULK AT MOST 1048576: true; the input reads as it did. -/
def topMarksUptoRow : OpenClaim := { program := "ytgjenfhkjjdcoaagreatdoor", sum := "f207f3dcbf4b4cc3fa4ef0be446b6ba43d404e9428f81dc299f2e5612eb75ebc", func := "pounce/pouncetop.TopMarks", spec := "topMarks", inPlace := ["internal/abi.NoEscape", "internal/bytealg.IndexByteString", "internal/bytealg.IndexString", "internal/bytealg.CountString", "internal/bytealg.MakeNoZero"], unfollowed := true, recurses := true, named := ["pounce/mark.steps", "unicode/utf8.first", "unicode/utf8.acceptRanges", "pounce/source.kept", "internal/bytealg.MaxLen", "strconv.ErrSyntax", "strconv.ErrRange", "internal/strconv.uint64pow10", "math/bits.deBruijn32tab", "math/bits.deBruijn64tab"], apart := false, laid := [("math/bits.deBruijn32tab", laid_math_bits_deBruijn32tab), ("math/bits.deBruijn64tab", laid_math_bits_deBruijn64tab), ("internal/strconv.uint64pow10", laid_internal_strconv_uint64pow10), ("pounce/mark.steps", laid_pounce_mark_steps), ("unicode/utf8.acceptRanges", laid_unicode_utf8_acceptRanges), ("strconv.ErrRange", laid_strconv_ErrRange), ("strconv.ErrSyntax", laid_strconv_ErrSyntax), ("pounce/source.kept", laid_pounce_source_kept), ("unicode/utf8.first", laid_unicode_utf8_first)], narrowed := true }
def TopMarksUptoSaid : Prop := topMarksUptoRow.holds Tryz.pinned (OpenSpec.upto topMarksSpec)

/-- 'pouncelaw12.ChainNames', WHERE WHAT IT READS IS OF BULK AT MOST 1048576: true; the input reads as it did. -/
def chainNamesUptoRow : OpenClaim := { program := "ytgjenfhkjjdcoaagreatdoor", sum := "f207f3dcbf4b4cc3fa4ef0be446b6ba43d404e9428f81dc299f2e5612eb75ebc", func := "pounce/pouncelaw12.ChainNames", spec := "chainNames", inPlace := ["internal/bytealg.IndexByteString", "internal/bytealg.IndexString", "internal/bytealg.CountString", "internal/abi.NoEscape", "internal/bytealg.MakeNoZero"], unfollowed := true, recurses := true, named := ["pounce/source.kept", "internal/bytealg.MaxLen", "unicode/utf8.first", "unicode/utf8.acceptRanges", "strconv.ErrSyntax", "strconv.ErrRange", "internal/strconv.uint64pow10", "math/bits.deBruijn32tab", "math/bits.deBruijn64tab", "pounce/mark.steps"], apart := false, laid := [("math/bits.deBruijn32tab", laid_math_bits_deBruijn32tab), ("math/bits.deBruijn64tab", laid_math_bits_deBruijn64tab), ("internal/strconv.uint64pow10", laid_internal_strconv_uint64pow10), ("pounce/mark.steps", laid_pounce_mark_steps), ("unicode/utf8.acceptRanges", laid_unicode_utf8_acceptRanges), ("strconv.ErrRange", laid_strconv_ErrRange), ("strconv.ErrSyntax", laid_strconv_ErrSyntax), ("pounce/source.kept", laid_pounce_source_kept), ("unicode/utf8.first", laid_unicode_utf8_first)], narrowed := true }
def ChainNamesUptoSaid : Prop := chainNamesUptoRow.holds Tryz.pinned (OpenSpec.upto chainNamesSpec)

/-- 'pouncelaw12.ChainOne', WHERE WHAT IT READS IS OF BULK AT MOST 1048576: true; the input reads as it did. -/
def chainOneUptoRow : OpenClaim := { program := "ytgjenfhkjjdcoaagreatdoor", sum := "f207f3dcbf4b4cc3fa4ef0be446b6ba43d404e9428f81dc299f2e5612eb75ebc", func := "pounce/pouncelaw12.ChainOne", spec := "chainOne", inPlace := ["internal/bytealg.IndexByteString", "internal/bytealg.IndexString", "internal/bytealg.CountString", "internal/abi.NoEscape", "internal/bytealg.MakeNoZero"], unfollowed := true, recurses := true, named := ["pounce/source.kept", "internal/bytealg.MaxLen", "unicode/utf8.first", "unicode/utf8.acceptRanges", "strconv.ErrSyntax", "strconv.ErrRange", "internal/strconv.uint64pow10", "math/bits.deBruijn32tab", "math/bits.deBruijn64tab", "pounce/mark.steps"], apart := false, laid := [("math/bits.deBruijn32tab", laid_math_bits_deBruijn32tab), ("math/bits.deBruijn64tab", laid_math_bits_deBruijn64tab), ("internal/strconv.uint64pow10", laid_internal_strconv_uint64pow10), ("pounce/mark.steps", laid_pounce_mark_steps), ("unicode/utf8.acceptRanges", laid_unicode_utf8_acceptRanges), ("strconv.ErrRange", laid_strconv_ErrRange), ("strconv.ErrSyntax", laid_strconv_ErrSyntax), ("pounce/source.kept", laid_pounce_source_kept), ("unicode/utf8.first", laid_unicode_utf8_first)], narrowed := true }
def ChainOneUptoSaid : Prop := chainOneUptoRow.holds Tryz.pinned (OpenSpec.upto chainOneSpec)

/-- 'pouncelaw12.ChainAll', WHERE WHAT IT READS IS OF BULK AT MOST 1048576: true; the input reads as it did. -/
def chainAllUptoRow : OpenClaim := { program := "ytgjenfhkjjdcoaagreatdoor", sum := "f207f3dcbf4b4cc3fa4ef0be446b6ba43d404e9428f81dc299f2e5612eb75ebc", func := "pounce/pouncelaw12.ChainAll", spec := "chainAll", inPlace := ["internal/bytealg.IndexByteString", "internal/bytealg.IndexString", "internal/bytealg.CountString", "internal/abi.NoEscape", "internal/bytealg.MakeNoZero"], unfollowed := true, recurses := true, named := ["unicode/utf8.first", "unicode/utf8.acceptRanges", "pounce/source.kept", "internal/bytealg.MaxLen", "strconv.ErrSyntax", "strconv.ErrRange", "internal/strconv.uint64pow10", "math/bits.deBruijn32tab", "math/bits.deBruijn64tab", "pounce/mark.steps"], apart := false, laid := [("math/bits.deBruijn32tab", laid_math_bits_deBruijn32tab), ("math/bits.deBruijn64tab", laid_math_bits_deBruijn64tab), ("internal/strconv.uint64pow10", laid_internal_strconv_uint64pow10), ("pounce/mark.steps", laid_pounce_mark_steps), ("unicode/utf8.acceptRanges", laid_unicode_utf8_acceptRanges), ("strconv.ErrRange", laid_strconv_ErrRange), ("strconv.ErrSyntax", laid_strconv_ErrSyntax), ("pounce/source.kept", laid_pounce_source_kept), ("unicode/utf8.first", laid_unicode_utf8_first)], narrowed := true }
def ChainAllUptoSaid : Prop := chainAllUptoRow.holds Tryz.pinned (OpenSpec.upto chainAllSpec)

/-- 'pouncelaw12.ChainMore', WHERE WHAT IT READS IS OF BULK AT MOST 1048576: true; the input reads as it did. -/
def chainMoreUptoRow : OpenClaim := { program := "ytgjenfhkjjdcoaagreatdoor", sum := "f207f3dcbf4b4cc3fa4ef0be446b6ba43d404e9428f81dc299f2e5612eb75ebc", func := "pounce/pouncelaw12.ChainMore", spec := "chainMore", inPlace := ["internal/bytealg.IndexByteString", "internal/bytealg.IndexString", "internal/bytealg.CountString", "internal/abi.NoEscape", "internal/bytealg.MakeNoZero"], unfollowed := true, recurses := true, named := ["pounce/source.kept", "internal/bytealg.MaxLen", "unicode/utf8.first", "unicode/utf8.acceptRanges", "strconv.ErrSyntax", "strconv.ErrRange", "internal/strconv.uint64pow10", "math/bits.deBruijn32tab", "math/bits.deBruijn64tab", "pounce/mark.steps"], apart := false, laid := [("math/bits.deBruijn32tab", laid_math_bits_deBruijn32tab), ("math/bits.deBruijn64tab", laid_math_bits_deBruijn64tab), ("internal/strconv.uint64pow10", laid_internal_strconv_uint64pow10), ("pounce/mark.steps", laid_pounce_mark_steps), ("unicode/utf8.acceptRanges", laid_unicode_utf8_acceptRanges), ("strconv.ErrRange", laid_strconv_ErrRange), ("strconv.ErrSyntax", laid_strconv_ErrSyntax), ("pounce/source.kept", laid_pounce_source_kept), ("unicode/utf8.first", laid_unicode_utf8_first)], narrowed := true }
def ChainMoreUptoSaid : Prop := chainMoreUptoRow.holds Tryz.pinned (OpenSpec.upto chainMoreSpec)

/-- 'pouncelaw12.ChainFree', WHERE WHAT IT READS IS OF BULK AT MOST 1048576: true; the input reads as it did. -/
def chainFreeUptoRow : OpenClaim := { program := "ytgjenfhkjjdcoaagreatdoor", sum := "f207f3dcbf4b4cc3fa4ef0be446b6ba43d404e9428f81dc299f2e5612eb75ebc", func := "pounce/pouncelaw12.ChainFree", spec := "chainFree", inPlace := ["internal/bytealg.IndexByteString", "internal/bytealg.IndexString", "internal/bytealg.CountString", "internal/abi.NoEscape", "internal/bytealg.MakeNoZero"], unfollowed := true, recurses := true, named := ["pounce/source.kept", "internal/bytealg.MaxLen", "unicode/utf8.first", "unicode/utf8.acceptRanges", "strconv.ErrSyntax", "strconv.ErrRange", "internal/strconv.uint64pow10", "math/bits.deBruijn32tab", "math/bits.deBruijn64tab", "pounce/mark.steps"], apart := false, laid := [("math/bits.deBruijn32tab", laid_math_bits_deBruijn32tab), ("math/bits.deBruijn64tab", laid_math_bits_deBruijn64tab), ("internal/strconv.uint64pow10", laid_internal_strconv_uint64pow10), ("pounce/mark.steps", laid_pounce_mark_steps), ("unicode/utf8.acceptRanges", laid_unicode_utf8_acceptRanges), ("strconv.ErrRange", laid_strconv_ErrRange), ("strconv.ErrSyntax", laid_strconv_ErrSyntax), ("pounce/source.kept", laid_pounce_source_kept), ("unicode/utf8.first", laid_unicode_utf8_first)], narrowed := true }
def ChainFreeUptoSaid : Prop := chainFreeUptoRow.holds Tryz.pinned (OpenSpec.upto chainFreeSpec)

/-- 'pouncelaw12.ChainReports', WHERE WHAT IT READS IS OF BULK AT MOST 1048576: true; the input reads as it did. -/
def chainReportsUptoRow : OpenClaim := { program := "ytgjenfhkjjdcoaagreatdoor", sum := "f207f3dcbf4b4cc3fa4ef0be446b6ba43d404e9428f81dc299f2e5612eb75ebc", func := "pounce/pouncelaw12.ChainReports", spec := "chainReports", inPlace := ["internal/bytealg.IndexByteString", "internal/bytealg.IndexString", "internal/bytealg.CountString", "internal/abi.NoEscape", "internal/bytealg.MakeNoZero"], unfollowed := true, recurses := true, named := ["pounce/source.kept", "internal/bytealg.MaxLen", "unicode/utf8.first", "unicode/utf8.acceptRanges", "strconv.ErrSyntax", "strconv.ErrRange", "internal/strconv.uint64pow10", "math/bits.deBruijn32tab", "math/bits.deBruijn64tab", "pounce/mark.steps"], apart := false, laid := [("math/bits.deBruijn32tab", laid_math_bits_deBruijn32tab), ("math/bits.deBruijn64tab", laid_math_bits_deBruijn64tab), ("internal/strconv.uint64pow10", laid_internal_strconv_uint64pow10), ("pounce/mark.steps", laid_pounce_mark_steps), ("unicode/utf8.acceptRanges", laid_unicode_utf8_acceptRanges), ("strconv.ErrRange", laid_strconv_ErrRange), ("strconv.ErrSyntax", laid_strconv_ErrSyntax), ("pounce/source.kept", laid_pounce_source_kept), ("unicode/utf8.first", laid_unicode_utf8_first)], narrowed := true }
def ChainReportsUptoSaid : Prop := chainReportsUptoRow.holds Tryz.pinned (OpenSpec.upto chainReportsSpec)

end Rows
end Go.Proofs.YtgjenfhkjjdcoaaGreatDoor
