/-
  NARROWER THAN 'FOR EVERY INPUT', by the rows' own cells (each row's printed sentence says how): AllowWitness: laid · AllowNonce: laid · AllowParts: laid · AllowRequests: laid · AllowNothing: laid · AllowOrder: laid · AllowMore: laid.
  DERIVED. THE GIVEN ROWS OF THIS SEAT. 7 by the template 'for every input the law returns true; each argument reads behind the call as it read before'; 0 by the template 'total and deterministic' (their statements: YtikphcnjknbdmaaGreatDoorTotals.lean).
  GIVEN WITH THE SEED: the statements are not yours to turn. If you find one false, say at which input.
  Laid BY PROGRAM, IN A SANDBOX (cutbox-rows.mjs): the forced cells as the released guide's own fill.sh prints them over the translation 9346feacb7ed164c… (all of the seat's roots in one cut). By AI agents, Wed Nov 11 2026. No macro, syntax, notation, axiom, sorry.
-/
import Derived.Test.YtikphcnjknbdmaaGreatDoorChecked
import GoSem.PinnedTables
import GoSem.Claim
import GoSem.ClaimJoined
import GoSem.ClaimMapViews
import Derived.JoinedTies
import Derived.KernelRfl
namespace Go.Proofs.YtikphcnjknbdmaaGreatDoor
/- THE CELL 'sum', in the pinned program and in every row, IS THE sha256 OF THE DUMP (.gsa) THAT YtikphcnjknbdmaaGreatDoorProg.lean LOADS. Nothing in Lean hashes anything: it is a label: what it is worth is what the hold of that sum in a sandbox is worth. -/
noncomputable def Tryz.pinned : Pinned := { name := "ytikphcnjknbdmaagreatdoor", sum := "9346feacb7ed164ca50ea5198b32d34aed21073b338e558080daab81a86b6689", checked := Tryz.checked }
namespace Rows
def none {H : Type} : Left H := { results := [], args := [] }

/- WHAT THE LISTED PACKAGE-LEVEL VARIABLES READ AS WHEN THE CALL BEGINS. Each datum BY PROGRAM (the guide's laid-datum.mjs) off the statement by which the dump's own 'gosem.cut.vars' lays the variable. In a bare row this is a premise. The card (YtikphcnjknbdmaaGreatDoorCards.lean) ties it to the program's text. -/
def laid_math_bits_deBruijn32tab {H : Type} : DataW H := .agg [.lit (.int .u8 0), .lit (.int .u8 1), .lit (.int .u8 28), .lit (.int .u8 2), .lit (.int .u8 29), .lit (.int .u8 14), .lit (.int .u8 24), .lit (.int .u8 3), .lit (.int .u8 30), .lit (.int .u8 22), .lit (.int .u8 20), .lit (.int .u8 15), .lit (.int .u8 25), .lit (.int .u8 17), .lit (.int .u8 4), .lit (.int .u8 8), .lit (.int .u8 31), .lit (.int .u8 27), .lit (.int .u8 13), .lit (.int .u8 23), .lit (.int .u8 21), .lit (.int .u8 19), .lit (.int .u8 16), .lit (.int .u8 7), .lit (.int .u8 26), .lit (.int .u8 12), .lit (.int .u8 18), .lit (.int .u8 6), .lit (.int .u8 11), .lit (.int .u8 5), .lit (.int .u8 10), .lit (.int .u8 9)]
def laid_math_bits_deBruijn64tab {H : Type} : DataW H := .agg [.lit (.int .u8 0), .lit (.int .u8 1), .lit (.int .u8 56), .lit (.int .u8 2), .lit (.int .u8 57), .lit (.int .u8 49), .lit (.int .u8 28), .lit (.int .u8 3), .lit (.int .u8 61), .lit (.int .u8 58), .lit (.int .u8 42), .lit (.int .u8 50), .lit (.int .u8 38), .lit (.int .u8 29), .lit (.int .u8 17), .lit (.int .u8 4), .lit (.int .u8 62), .lit (.int .u8 47), .lit (.int .u8 59), .lit (.int .u8 36), .lit (.int .u8 45), .lit (.int .u8 43), .lit (.int .u8 51), .lit (.int .u8 22), .lit (.int .u8 53), .lit (.int .u8 39), .lit (.int .u8 33), .lit (.int .u8 30), .lit (.int .u8 24), .lit (.int .u8 18), .lit (.int .u8 12), .lit (.int .u8 5), .lit (.int .u8 63), .lit (.int .u8 55), .lit (.int .u8 48), .lit (.int .u8 27), .lit (.int .u8 60), .lit (.int .u8 41), .lit (.int .u8 37), .lit (.int .u8 16), .lit (.int .u8 46), .lit (.int .u8 35), .lit (.int .u8 44), .lit (.int .u8 21), .lit (.int .u8 52), .lit (.int .u8 32), .lit (.int .u8 23), .lit (.int .u8 11), .lit (.int .u8 54), .lit (.int .u8 26), .lit (.int .u8 40), .lit (.int .u8 15), .lit (.int .u8 34), .lit (.int .u8 20), .lit (.int .u8 31), .lit (.int .u8 10), .lit (.int .u8 25), .lit (.int .u8 14), .lit (.int .u8 19), .lit (.int .u8 9), .lit (.int .u8 13), .lit (.int .u8 8), .lit (.int .u8 7), .lit (.int .u8 6)]
def laid_internal_strconv_uint64pow10 {H : Type} : DataW H := .agg [.lit (.int .u64 1), .lit (.int .u64 10), .lit (.int .u64 100), .lit (.int .u64 1000), .lit (.int .u64 10000), .lit (.int .u64 100000), .lit (.int .u64 1000000), .lit (.int .u64 10000000), .lit (.int .u64 100000000), .lit (.int .u64 1000000000), .lit (.int .u64 10000000000), .lit (.int .u64 100000000000), .lit (.int .u64 1000000000000), .lit (.int .u64 10000000000000), .lit (.int .u64 100000000000000), .lit (.int .u64 1000000000000000), .lit (.int .u64 10000000000000000), .lit (.int .u64 100000000000000000), .lit (.int .u64 1000000000000000000), .lit (.int .u64 10000000000000000000)]
def laid_pounce_mark_steps {H : Type} : DataW H := .agg [.lit (.int .u64 257), .lit (.int .u64 65539)]
def laid_unicode_utf8_acceptRanges {H : Type} : DataW H := .agg [.agg [.lit (.int .u8 128), .lit (.int .u8 191)], .agg [.lit (.int .u8 160), .lit (.int .u8 191)], .agg [.lit (.int .u8 128), .lit (.int .u8 159)], .agg [.lit (.int .u8 144), .lit (.int .u8 191)], .agg [.lit (.int .u8 128), .lit (.int .u8 143)], .agg [.lit (.int .u8 0), .lit (.int .u8 0)], .agg [.lit (.int .u8 0), .lit (.int .u8 0)], .agg [.lit (.int .u8 0), .lit (.int .u8 0)], .agg [.lit (.int .u8 0), .lit (.int .u8 0)], .agg [.lit (.int .u8 0), .lit (.int .u8 0)], .agg [.lit (.int .u8 0), .lit (.int .u8 0)], .agg [.lit (.int .u8 0), .lit (.int .u8 0)], .agg [.lit (.int .u8 0), .lit (.int .u8 0)], .agg [.lit (.int .u8 0), .lit (.int .u8 0)], .agg [.lit (.int .u8 0), .lit (.int .u8 0)], .agg [.lit (.int .u8 0), .lit (.int .u8 0)]]
def laid_strconv_ErrRange {H : Type} : DataW H := .iface "*errors.errorString" (.ptr (.agg [.lit (.string [118, 97, 108, 117, 101, 32, 111, 117, 116, 32, 111, 102, 32, 114, 97, 110, 103, 101])]))
def laid_strconv_ErrSyntax {H : Type} : DataW H := .iface "*errors.errorString" (.ptr (.agg [.lit (.string [105, 110, 118, 97, 108, 105, 100, 32, 115, 121, 110, 116, 97, 120])]))
def laid_pounce_source_kept {H : Type} : DataW H := .agg [.lit (.string []), .lit (.string [39, 110, 111, 110, 101, 39]), .lit (.string [39, 115, 101, 108, 102, 39]), .lit (.string [39, 117, 110, 115, 97, 102, 101, 45, 105, 110, 108, 105, 110, 101, 39]), .lit (.string [39, 117, 110, 115, 97, 102, 101, 45, 101, 118, 97, 108, 39]), .lit (.string [39, 119, 97, 115, 109, 45, 117, 110, 115, 97, 102, 101, 45, 101, 118, 97, 108, 39]), .lit (.string [39, 115, 116, 114, 105, 99, 116, 45, 100, 121, 110, 97, 109, 105, 99, 39]), .lit (.string [39, 117, 110, 115, 97, 102, 101, 45, 104, 97, 115, 104, 101, 115, 39]), .lit (.string [39, 114, 101, 112, 111, 114, 116, 45, 115, 97, 109, 112, 108, 101, 39])]
/-- One of Go's own tables, pinned by name: the form's constant. -/
def laid_unicode_utf8_first : DataW Unit := Go.Pinned.utf8First

/-- 'pouncelaw11.AllowWitness': WHATEVER THE INPUT: true; the input reads as it did. -/
def allowWitnessSpec : ChangeSpec := { name := "allowWitness", fn := fun _ => fun
  | [d1, d2] => { results := [.lit (.bool true)], args := [d1, d2] }
  | _ => none }
def allowWitnessRow : OpenClaim := { program := "ytikphcnjknbdmaagreatdoor", sum := "9346feacb7ed164ca50ea5198b32d34aed21073b338e558080daab81a86b6689", func := "pounce/pouncelaw11.AllowWitness", spec := "allowWitness", inPlace := ["internal/bytealg.IndexByteString", "internal/bytealg.IndexString", "internal/bytealg.CountString", "internal/abi.NoEscape", "internal/bytealg.MakeNoZero"], unfollowed := true, recurses := true, named := ["pounce/mark.steps", "pounce/source.kept", "internal/bytealg.MaxLen", "unicode/utf8.first", "unicode/utf8.acceptRanges", "strconv.ErrSyntax", "strconv.ErrRange", "internal/strconv.uint64pow10", "math/bits.deBruijn32tab", "math/bits.deBruijn64tab"], apart := false, laid := [("math/bits.deBruijn32tab", laid_math_bits_deBruijn32tab), ("math/bits.deBruijn64tab", laid_math_bits_deBruijn64tab), ("internal/strconv.uint64pow10", laid_internal_strconv_uint64pow10), ("pounce/mark.steps", laid_pounce_mark_steps), ("unicode/utf8.acceptRanges", laid_unicode_utf8_acceptRanges), ("strconv.ErrRange", laid_strconv_ErrRange), ("strconv.ErrSyntax", laid_strconv_ErrSyntax), ("pounce/source.kept", laid_pounce_source_kept), ("unicode/utf8.first", laid_unicode_utf8_first)] }
def AllowWitnessSaid : Prop := allowWitnessRow.holds Tryz.pinned (OpenSpec.ofChange allowWitnessSpec)

/-- ITS FALSE NEIGHBOUR: 'it returns false'. Refute it at one input. -/
def allowWitnessWrong : ChangeSpec := { name := "allowWitness", fn := fun _ => fun
  | [d1, d2] => { results := [.lit (.bool false)], args := [d1, d2] }
  | _ => none }
def AllowWitnessWrongFalsely : Prop := allowWitnessRow.holds Tryz.pinned (OpenSpec.ofChange allowWitnessWrong)

/-- 'pouncelaw11.AllowNonce': WHATEVER THE INPUT: true; the input reads as it did. -/
def allowNonceSpec : ChangeSpec := { name := "allowNonce", fn := fun _ => fun
  | [d1, d2, d3] => { results := [.lit (.bool true)], args := [d1, d2, d3] }
  | _ => none }
def allowNonceRow : OpenClaim := { program := "ytikphcnjknbdmaagreatdoor", sum := "9346feacb7ed164ca50ea5198b32d34aed21073b338e558080daab81a86b6689", func := "pounce/pouncelaw11.AllowNonce", spec := "allowNonce", inPlace := ["internal/bytealg.IndexByteString", "internal/bytealg.IndexString", "internal/bytealg.CountString", "internal/abi.NoEscape", "internal/bytealg.MakeNoZero"], unfollowed := true, recurses := true, named := ["pounce/mark.steps", "pounce/source.kept", "internal/bytealg.MaxLen", "unicode/utf8.first", "unicode/utf8.acceptRanges", "strconv.ErrSyntax", "strconv.ErrRange", "internal/strconv.uint64pow10", "math/bits.deBruijn32tab", "math/bits.deBruijn64tab"], apart := false, laid := [("math/bits.deBruijn32tab", laid_math_bits_deBruijn32tab), ("math/bits.deBruijn64tab", laid_math_bits_deBruijn64tab), ("internal/strconv.uint64pow10", laid_internal_strconv_uint64pow10), ("pounce/mark.steps", laid_pounce_mark_steps), ("unicode/utf8.acceptRanges", laid_unicode_utf8_acceptRanges), ("strconv.ErrRange", laid_strconv_ErrRange), ("strconv.ErrSyntax", laid_strconv_ErrSyntax), ("pounce/source.kept", laid_pounce_source_kept), ("unicode/utf8.first", laid_unicode_utf8_first)] }
def AllowNonceSaid : Prop := allowNonceRow.holds Tryz.pinned (OpenSpec.ofChange allowNonceSpec)

/-- ITS FALSE NEIGHBOUR: 'it returns false'. Refute it at one input. -/
def allowNonceWrong : ChangeSpec := { name := "allowNonce", fn := fun _ => fun
  | [d1, d2, d3] => { results := [.lit (.bool false)], args := [d1, d2, d3] }
  | _ => none }
def AllowNonceWrongFalsely : Prop := allowNonceRow.holds Tryz.pinned (OpenSpec.ofChange allowNonceWrong)

/-- 'pouncelaw11.AllowParts': WHATEVER THE INPUT: true; the input reads as it did. -/
def allowPartsSpec : ChangeSpec := { name := "allowParts", fn := fun _ => fun
  | [d1, d2] => { results := [.lit (.bool true)], args := [d1, d2] }
  | _ => none }
def allowPartsRow : OpenClaim := { program := "ytikphcnjknbdmaagreatdoor", sum := "9346feacb7ed164ca50ea5198b32d34aed21073b338e558080daab81a86b6689", func := "pounce/pouncelaw11.AllowParts", spec := "allowParts", inPlace := ["internal/bytealg.IndexByteString", "internal/bytealg.IndexString", "internal/bytealg.CountString", "internal/abi.NoEscape", "internal/bytealg.MakeNoZero"], unfollowed := true, recurses := true, named := ["unicode/utf8.first", "unicode/utf8.acceptRanges", "internal/bytealg.MaxLen", "internal/strconv.uint64pow10", "math/bits.deBruijn32tab", "math/bits.deBruijn64tab", "pounce/mark.steps", "pounce/source.kept", "strconv.ErrSyntax", "strconv.ErrRange"], apart := false, laid := [("math/bits.deBruijn32tab", laid_math_bits_deBruijn32tab), ("math/bits.deBruijn64tab", laid_math_bits_deBruijn64tab), ("internal/strconv.uint64pow10", laid_internal_strconv_uint64pow10), ("pounce/mark.steps", laid_pounce_mark_steps), ("unicode/utf8.acceptRanges", laid_unicode_utf8_acceptRanges), ("strconv.ErrRange", laid_strconv_ErrRange), ("strconv.ErrSyntax", laid_strconv_ErrSyntax), ("pounce/source.kept", laid_pounce_source_kept), ("unicode/utf8.first", laid_unicode_utf8_first)] }
def AllowPartsSaid : Prop := allowPartsRow.holds Tryz.pinned (OpenSpec.ofChange allowPartsSpec)

/-- ITS FALSE NEIGHBOUR: 'it returns false'. Refute it at one input. -/
def allowPartsWrong : ChangeSpec := { name := "allowParts", fn := fun _ => fun
  | [d1, d2] => { results := [.lit (.bool false)], args := [d1, d2] }
  | _ => none }
def AllowPartsWrongFalsely : Prop := allowPartsRow.holds Tryz.pinned (OpenSpec.ofChange allowPartsWrong)

/-- 'pouncelaw11.AllowRequests': WHATEVER THE INPUT: true; the input reads as it did. -/
def allowRequestsSpec : ChangeSpec := { name := "allowRequests", fn := fun _ => fun
  | [d1, d2] => { results := [.lit (.bool true)], args := [d1, d2] }
  | _ => none }
def allowRequestsRow : OpenClaim := { program := "ytikphcnjknbdmaagreatdoor", sum := "9346feacb7ed164ca50ea5198b32d34aed21073b338e558080daab81a86b6689", func := "pounce/pouncelaw11.AllowRequests", spec := "allowRequests", inPlace := ["internal/bytealg.IndexByteString", "internal/bytealg.IndexString", "internal/bytealg.CountString", "internal/abi.NoEscape", "internal/bytealg.MakeNoZero"], unfollowed := true, recurses := true, named := ["pounce/mark.steps", "pounce/source.kept", "internal/bytealg.MaxLen", "unicode/utf8.first", "unicode/utf8.acceptRanges", "strconv.ErrSyntax", "strconv.ErrRange", "internal/strconv.uint64pow10", "math/bits.deBruijn32tab", "math/bits.deBruijn64tab"], apart := false, laid := [("math/bits.deBruijn32tab", laid_math_bits_deBruijn32tab), ("math/bits.deBruijn64tab", laid_math_bits_deBruijn64tab), ("internal/strconv.uint64pow10", laid_internal_strconv_uint64pow10), ("pounce/mark.steps", laid_pounce_mark_steps), ("unicode/utf8.acceptRanges", laid_unicode_utf8_acceptRanges), ("strconv.ErrRange", laid_strconv_ErrRange), ("strconv.ErrSyntax", laid_strconv_ErrSyntax), ("pounce/source.kept", laid_pounce_source_kept), ("unicode/utf8.first", laid_unicode_utf8_first)] }
def AllowRequestsSaid : Prop := allowRequestsRow.holds Tryz.pinned (OpenSpec.ofChange allowRequestsSpec)

/-- ITS FALSE NEIGHBOUR: 'it returns false'. Refute it at one input. -/
def allowRequestsWrong : ChangeSpec := { name := "allowRequests", fn := fun _ => fun
  | [d1, d2] => { results := [.lit (.bool false)], args := [d1, d2] }
  | _ => none }
def AllowRequestsWrongFalsely : Prop := allowRequestsRow.holds Tryz.pinned (OpenSpec.ofChange allowRequestsWrong)

/-- 'pouncelaw11.AllowNothing': WHATEVER THE INPUT: true; the input reads as it did. -/
def allowNothingSpec : ChangeSpec := { name := "allowNothing", fn := fun _ => fun
  | [d1, d2] => { results := [.lit (.bool true)], args := [d1, d2] }
  | _ => none }
def allowNothingRow : OpenClaim := { program := "ytikphcnjknbdmaagreatdoor", sum := "9346feacb7ed164ca50ea5198b32d34aed21073b338e558080daab81a86b6689", func := "pounce/pouncelaw11.AllowNothing", spec := "allowNothing", inPlace := ["internal/bytealg.IndexByteString", "internal/bytealg.IndexString", "internal/bytealg.CountString", "internal/abi.NoEscape", "internal/bytealg.MakeNoZero"], unfollowed := true, recurses := true, named := ["pounce/mark.steps", "pounce/source.kept", "internal/bytealg.MaxLen", "unicode/utf8.first", "unicode/utf8.acceptRanges", "strconv.ErrSyntax", "strconv.ErrRange", "internal/strconv.uint64pow10", "math/bits.deBruijn32tab", "math/bits.deBruijn64tab"], apart := false, laid := [("math/bits.deBruijn32tab", laid_math_bits_deBruijn32tab), ("math/bits.deBruijn64tab", laid_math_bits_deBruijn64tab), ("internal/strconv.uint64pow10", laid_internal_strconv_uint64pow10), ("pounce/mark.steps", laid_pounce_mark_steps), ("unicode/utf8.acceptRanges", laid_unicode_utf8_acceptRanges), ("strconv.ErrRange", laid_strconv_ErrRange), ("strconv.ErrSyntax", laid_strconv_ErrSyntax), ("pounce/source.kept", laid_pounce_source_kept), ("unicode/utf8.first", laid_unicode_utf8_first)] }
def AllowNothingSaid : Prop := allowNothingRow.holds Tryz.pinned (OpenSpec.ofChange allowNothingSpec)

/-- ITS FALSE NEIGHBOUR: 'it returns false'. Refute it at one input. -/
def allowNothingWrong : ChangeSpec := { name := "allowNothing", fn := fun _ => fun
  | [d1, d2] => { results := [.lit (.bool false)], args := [d1, d2] }
  | _ => none }
def AllowNothingWrongFalsely : Prop := allowNothingRow.holds Tryz.pinned (OpenSpec.ofChange allowNothingWrong)

/-- 'pouncelaw11.AllowOrder': WHATEVER THE INPUT: true; the input reads as it did. -/
def allowOrderSpec : ChangeSpec := { name := "allowOrder", fn := fun _ => fun
  | [d1, d2, d3] => { results := [.lit (.bool true)], args := [d1, d2, d3] }
  | _ => none }
def allowOrderRow : OpenClaim := { program := "ytikphcnjknbdmaagreatdoor", sum := "9346feacb7ed164ca50ea5198b32d34aed21073b338e558080daab81a86b6689", func := "pounce/pouncelaw11.AllowOrder", spec := "allowOrder", inPlace := ["internal/bytealg.IndexByteString", "internal/bytealg.IndexString", "internal/bytealg.CountString", "internal/abi.NoEscape", "internal/bytealg.MakeNoZero"], unfollowed := true, recurses := true, named := ["pounce/mark.steps", "pounce/source.kept", "internal/bytealg.MaxLen", "unicode/utf8.first", "unicode/utf8.acceptRanges", "strconv.ErrSyntax", "strconv.ErrRange", "internal/strconv.uint64pow10", "math/bits.deBruijn32tab", "math/bits.deBruijn64tab"], apart := false, laid := [("math/bits.deBruijn32tab", laid_math_bits_deBruijn32tab), ("math/bits.deBruijn64tab", laid_math_bits_deBruijn64tab), ("internal/strconv.uint64pow10", laid_internal_strconv_uint64pow10), ("pounce/mark.steps", laid_pounce_mark_steps), ("unicode/utf8.acceptRanges", laid_unicode_utf8_acceptRanges), ("strconv.ErrRange", laid_strconv_ErrRange), ("strconv.ErrSyntax", laid_strconv_ErrSyntax), ("pounce/source.kept", laid_pounce_source_kept), ("unicode/utf8.first", laid_unicode_utf8_first)] }
def AllowOrderSaid : Prop := allowOrderRow.holds Tryz.pinned (OpenSpec.ofChange allowOrderSpec)

/-- ITS FALSE NEIGHBOUR: 'it returns false'. Refute it at one input. -/
def allowOrderWrong : ChangeSpec := { name := "allowOrder", fn := fun _ => fun
  | [d1, d2, d3] => { results := [.lit (.bool false)], args := [d1, d2, d3] }
  | _ => none }
def AllowOrderWrongFalsely : Prop := allowOrderRow.holds Tryz.pinned (OpenSpec.ofChange allowOrderWrong)

/-- 'pouncelaw11.AllowMore': WHATEVER THE INPUT: true; the input reads as it did. -/
def allowMoreSpec : ChangeSpec := { name := "allowMore", fn := fun _ => fun
  | [d1, d2, d3] => { results := [.lit (.bool true)], args := [d1, d2, d3] }
  | _ => none }
def allowMoreRow : OpenClaim := { program := "ytikphcnjknbdmaagreatdoor", sum := "9346feacb7ed164ca50ea5198b32d34aed21073b338e558080daab81a86b6689", func := "pounce/pouncelaw11.AllowMore", spec := "allowMore", inPlace := ["internal/bytealg.IndexByteString", "internal/bytealg.IndexString", "internal/bytealg.CountString", "internal/abi.NoEscape", "internal/bytealg.MakeNoZero"], unfollowed := true, recurses := true, named := ["pounce/mark.steps", "pounce/source.kept", "internal/bytealg.MaxLen", "unicode/utf8.first", "unicode/utf8.acceptRanges", "strconv.ErrSyntax", "strconv.ErrRange", "internal/strconv.uint64pow10", "math/bits.deBruijn32tab", "math/bits.deBruijn64tab"], apart := false, laid := [("math/bits.deBruijn32tab", laid_math_bits_deBruijn32tab), ("math/bits.deBruijn64tab", laid_math_bits_deBruijn64tab), ("internal/strconv.uint64pow10", laid_internal_strconv_uint64pow10), ("pounce/mark.steps", laid_pounce_mark_steps), ("unicode/utf8.acceptRanges", laid_unicode_utf8_acceptRanges), ("strconv.ErrRange", laid_strconv_ErrRange), ("strconv.ErrSyntax", laid_strconv_ErrSyntax), ("pounce/source.kept", laid_pounce_source_kept), ("unicode/utf8.first", laid_unicode_utf8_first)] }
def AllowMoreSaid : Prop := allowMoreRow.holds Tryz.pinned (OpenSpec.ofChange allowMoreSpec)

/-- ITS FALSE NEIGHBOUR: 'it returns false'. Refute it at one input. -/
def allowMoreWrong : ChangeSpec := { name := "allowMore", fn := fun _ => fun
  | [d1, d2, d3] => { results := [.lit (.bool false)], args := [d1, d2, d3] }
  | _ => none }
def AllowMoreWrongFalsely : Prop := allowMoreRow.holds Tryz.pinned (OpenSpec.ofChange allowMoreWrong)

/- THE SECOND FORM. 'bulk': how many values and letters a reading holds, each counted each time it is reached (what is shared counts as often as it is met; a slice's spare places count too). A statement '..UptoSaid' is the law's where the arguments, and the package variables that the reading takes, are together of bulk at most 1048576: NARROWER than '..Said'. Prove '..Said' where nothing that the law and all that it calls make is longer than what came in: it says more and counts as full. Else prove '..UptoSaid'. A law counts once. -/
mutual
def uptoBulk {H : Type} : DataW H → Nat
  | .lit (.string bytes) => bytes.length + 1
  | .lit _ => 1
  | .nil => 1
  | .ptr d => uptoBulk d + 1
  | .slice elems spare => uptoBulkAll elems + uptoBulkAll spare + 1
  | .agg parts => uptoBulkAll parts + 1
  | .iface _ d => uptoBulk d + 1
  | .map entries => uptoBulkEntries entries + 1
  | .held _ => 1
def uptoBulkAll {H : Type} : List (DataW H) → Nat
  | [] => 0
  | d :: r => uptoBulk d + uptoBulkAll r
def uptoBulkEntries {H : Type} : List (Lit × DataW H) → Nat
  | [] => 0
  | x :: r => uptoBulkEntry x + uptoBulkEntries r
def uptoBulkEntry {H : Type} : Lit × DataW H → Nat
  | (.string bytes, d) => bytes.length + uptoBulk d + 1
  | (_, d) => uptoBulk d + 1
 end
def uptoSmall : (H : Type) → List (DataW H) → Bool := fun _ ds => decide (uptoBulkAll ds ≤ 1048576)
def OpenSpec.upto (s : _root_.Go.ChangeSpec) : _root_.Go.OpenSpec := { _root_.Go.OpenSpec.ofChange s with cond := some uptoSmall }

/-- 'pouncelaw11.AllowWitness', WHERE WHAT IT READS IS OF BULK AT MOST 1048576: true; the input reads as it did. -/
def allowWitnessUptoRow : OpenClaim := { program := "ytikphcnjknbdmaagreatdoor", sum := "9346feacb7ed164ca50ea5198b32d34aed21073b338e558080daab81a86b6689", func := "pounce/pouncelaw11.AllowWitness", spec := "allowWitness", inPlace := ["internal/bytealg.IndexByteString", "internal/bytealg.IndexString", "internal/bytealg.CountString", "internal/abi.NoEscape", "internal/bytealg.MakeNoZero"], unfollowed := true, recurses := true, named := ["pounce/mark.steps", "pounce/source.kept", "internal/bytealg.MaxLen", "unicode/utf8.first", "unicode/utf8.acceptRanges", "strconv.ErrSyntax", "strconv.ErrRange", "internal/strconv.uint64pow10", "math/bits.deBruijn32tab", "math/bits.deBruijn64tab"], apart := false, laid := [("math/bits.deBruijn32tab", laid_math_bits_deBruijn32tab), ("math/bits.deBruijn64tab", laid_math_bits_deBruijn64tab), ("internal/strconv.uint64pow10", laid_internal_strconv_uint64pow10), ("pounce/mark.steps", laid_pounce_mark_steps), ("unicode/utf8.acceptRanges", laid_unicode_utf8_acceptRanges), ("strconv.ErrRange", laid_strconv_ErrRange), ("strconv.ErrSyntax", laid_strconv_ErrSyntax), ("pounce/source.kept", laid_pounce_source_kept), ("unicode/utf8.first", laid_unicode_utf8_first)], narrowed := true }
def AllowWitnessUptoSaid : Prop := allowWitnessUptoRow.holds Tryz.pinned (OpenSpec.upto allowWitnessSpec)

/-- 'pouncelaw11.AllowNonce', WHERE WHAT IT READS IS OF BULK AT MOST 1048576: true; the input reads as it did. -/
def allowNonceUptoRow : OpenClaim := { program := "ytikphcnjknbdmaagreatdoor", sum := "9346feacb7ed164ca50ea5198b32d34aed21073b338e558080daab81a86b6689", func := "pounce/pouncelaw11.AllowNonce", spec := "allowNonce", inPlace := ["internal/bytealg.IndexByteString", "internal/bytealg.IndexString", "internal/bytealg.CountString", "internal/abi.NoEscape", "internal/bytealg.MakeNoZero"], unfollowed := true, recurses := true, named := ["pounce/mark.steps", "pounce/source.kept", "internal/bytealg.MaxLen", "unicode/utf8.first", "unicode/utf8.acceptRanges", "strconv.ErrSyntax", "strconv.ErrRange", "internal/strconv.uint64pow10", "math/bits.deBruijn32tab", "math/bits.deBruijn64tab"], apart := false, laid := [("math/bits.deBruijn32tab", laid_math_bits_deBruijn32tab), ("math/bits.deBruijn64tab", laid_math_bits_deBruijn64tab), ("internal/strconv.uint64pow10", laid_internal_strconv_uint64pow10), ("pounce/mark.steps", laid_pounce_mark_steps), ("unicode/utf8.acceptRanges", laid_unicode_utf8_acceptRanges), ("strconv.ErrRange", laid_strconv_ErrRange), ("strconv.ErrSyntax", laid_strconv_ErrSyntax), ("pounce/source.kept", laid_pounce_source_kept), ("unicode/utf8.first", laid_unicode_utf8_first)], narrowed := true }
def AllowNonceUptoSaid : Prop := allowNonceUptoRow.holds Tryz.pinned (OpenSpec.upto allowNonceSpec)

/-- 'pouncelaw11.AllowParts', WHERE WHAT IT READS IS OF BULK AT MOST 1048576: true; the input reads as it did. -/
def allowPartsUptoRow : OpenClaim := { program := "ytikphcnjknbdmaagreatdoor", sum := "9346feacb7ed164ca50ea5198b32d34aed21073b338e558080daab81a86b6689", func := "pounce/pouncelaw11.AllowParts", spec := "allowParts", inPlace := ["internal/bytealg.IndexByteString", "internal/bytealg.IndexString", "internal/bytealg.CountString", "internal/abi.NoEscape", "internal/bytealg.MakeNoZero"], unfollowed := true, recurses := true, named := ["unicode/utf8.first", "unicode/utf8.acceptRanges", "internal/bytealg.MaxLen", "internal/strconv.uint64pow10", "math/bits.deBruijn32tab", "math/bits.deBruijn64tab", "pounce/mark.steps", "pounce/source.kept", "strconv.ErrSyntax", "strconv.ErrRange"], apart := false, laid := [("math/bits.deBruijn32tab", laid_math_bits_deBruijn32tab), ("math/bits.deBruijn64tab", laid_math_bits_deBruijn64tab), ("internal/strconv.uint64pow10", laid_internal_strconv_uint64pow10), ("pounce/mark.steps", laid_pounce_mark_steps), ("unicode/utf8.acceptRanges", laid_unicode_utf8_acceptRanges), ("strconv.ErrRange", laid_strconv_ErrRange), ("strconv.ErrSyntax", laid_strconv_ErrSyntax), ("pounce/source.kept", laid_pounce_source_kept), ("unicode/utf8.first", laid_unicode_utf8_first)], narrowed := true }
def AllowPartsUptoSaid : Prop := allowPartsUptoRow.holds Tryz.pinned (OpenSpec.upto allowPartsSpec)

/-- 'pouncelaw11.AllowRequests', WHERE WHAT IT READS IS OF BULK AT MOST 1048576: true; the input reads as it did. -/
def allowRequestsUptoRow : OpenClaim := { program := "ytikphcnjknbdmaagreatdoor", sum := "9346feacb7ed164ca50ea5198b32d34aed21073b338e558080daab81a86b6689", func := "pounce/pouncelaw11.AllowRequests", spec := "allowRequests", inPlace := ["internal/bytealg.IndexByteString", "internal/bytealg.IndexString", "internal/bytealg.CountString", "internal/abi.NoEscape", "internal/bytealg.MakeNoZero"], unfollowed := true, recurses := true, named := ["pounce/mark.steps", "pounce/source.kept", "internal/bytealg.MaxLen", "unicode/utf8.first", "unicode/utf8.acceptRanges", "strconv.ErrSyntax", "strconv.ErrRange", "internal/strconv.uint64pow10", "math/bits.deBruijn32tab", "math/bits.deBruijn64tab"], apart := false, laid := [("math/bits.deBruijn32tab", laid_math_bits_deBruijn32tab), ("math/bits.deBruijn64tab", laid_math_bits_deBruijn64tab), ("internal/strconv.uint64pow10", laid_internal_strconv_uint64pow10), ("pounce/mark.steps", laid_pounce_mark_steps), ("unicode/utf8.acceptRanges", laid_unicode_utf8_acceptRanges), ("strconv.ErrRange", laid_strconv_ErrRange), ("strconv.ErrSyntax", laid_strconv_ErrSyntax), ("pounce/source.kept", laid_pounce_source_kept), ("unicode/utf8.first", laid_unicode_utf8_first)], narrowed := true }
def AllowRequestsUptoSaid : Prop := allowRequestsUptoRow.holds Tryz.pinned (OpenSpec.upto allowRequestsSpec)

/-- 'pouncelaw11.AllowNothing', WHERE WHAT IT READS IS OF BULK AT MOST 1048576: true; the input reads as it did. -/
def allowNothingUptoRow : OpenClaim := { program := "ytikphcnjknbdmaagreatdoor", sum := "9346feacb7ed164ca50ea5198b32d34aed21073b338e558080daab81a86b6689", func := "pounce/pouncelaw11.AllowNothing", spec := "allowNothing", inPlace := ["internal/bytealg.IndexByteString", "internal/bytealg.IndexString", "internal/bytealg.CountString", "internal/abi.NoEscape", "internal/bytealg.MakeNoZero"], unfollowed := true, recurses := true, named := ["pounce/mark.steps", "pounce/source.kept", "internal/bytealg.MaxLen", "unicode/utf8.first", "unicode/utf8.acceptRanges", "strconv.ErrSyntax", "strconv.ErrRange", "internal/strconv.uint64pow10", "math/bits.deBruijn32tab", "math/bits.deBruijn64tab"], apart := false, laid := [("math/bits.deBruijn32tab", laid_math_bits_deBruijn32tab), ("math/bits.deBruijn64tab", laid_math_bits_deBruijn64tab), ("internal/strconv.uint64pow10", laid_internal_strconv_uint64pow10), ("pounce/mark.steps", laid_pounce_mark_steps), ("unicode/utf8.acceptRanges", laid_unicode_utf8_acceptRanges), ("strconv.ErrRange", laid_strconv_ErrRange), ("strconv.ErrSyntax", laid_strconv_ErrSyntax), ("pounce/source.kept", laid_pounce_source_kept), ("unicode/utf8.first", laid_unicode_utf8_first)], narrowed := true }
def AllowNothingUptoSaid : Prop := allowNothingUptoRow.holds Tryz.pinned (OpenSpec.upto allowNothingSpec)

/-- 'pouncelaw11.AllowOrder', WHERE WHAT IT READS IS OF BULK AT MOST 1048576: true; the input reads as it did. -/
def allowOrderUptoRow : OpenClaim := { program := "ytikphcnjknbdmaagreatdoor", sum := "9346feacb7ed164ca50ea5198b32d34aed21073b338e558080daab81a86b6689", func := "pounce/pouncelaw11.AllowOrder", spec := "allowOrder", inPlace := ["internal/bytealg.IndexByteString", "internal/bytealg.IndexString", "internal/bytealg.CountString", "internal/abi.NoEscape", "internal/bytealg.MakeNoZero"], unfollowed := true, recurses := true, named := ["pounce/mark.steps", "pounce/source.kept", "internal/bytealg.MaxLen", "unicode/utf8.first", "unicode/utf8.acceptRanges", "strconv.ErrSyntax", "strconv.ErrRange", "internal/strconv.uint64pow10", "math/bits.deBruijn32tab", "math/bits.deBruijn64tab"], apart := false, laid := [("math/bits.deBruijn32tab", laid_math_bits_deBruijn32tab), ("math/bits.deBruijn64tab", laid_math_bits_deBruijn64tab), ("internal/strconv.uint64pow10", laid_internal_strconv_uint64pow10), ("pounce/mark.steps", laid_pounce_mark_steps), ("unicode/utf8.acceptRanges", laid_unicode_utf8_acceptRanges), ("strconv.ErrRange", laid_strconv_ErrRange), ("strconv.ErrSyntax", laid_strconv_ErrSyntax), ("pounce/source.kept", laid_pounce_source_kept), ("unicode/utf8.first", laid_unicode_utf8_first)], narrowed := true }
def AllowOrderUptoSaid : Prop := allowOrderUptoRow.holds Tryz.pinned (OpenSpec.upto allowOrderSpec)

/-- 'pouncelaw11.AllowMore', WHERE WHAT IT READS IS OF BULK AT MOST 1048576: true; the input reads as it did. -/
def allowMoreUptoRow : OpenClaim := { program := "ytikphcnjknbdmaagreatdoor", sum := "9346feacb7ed164ca50ea5198b32d34aed21073b338e558080daab81a86b6689", func := "pounce/pouncelaw11.AllowMore", spec := "allowMore", inPlace := ["internal/bytealg.IndexByteString", "internal/bytealg.IndexString", "internal/bytealg.CountString", "internal/abi.NoEscape", "internal/bytealg.MakeNoZero"], unfollowed := true, recurses := true, named := ["pounce/mark.steps", "pounce/source.kept", "internal/bytealg.MaxLen", "unicode/utf8.first", "unicode/utf8.acceptRanges", "strconv.ErrSyntax", "strconv.ErrRange", "internal/strconv.uint64pow10", "math/bits.deBruijn32tab", "math/bits.deBruijn64tab"], apart := false, laid := [("math/bits.deBruijn32tab", laid_math_bits_deBruijn32tab), ("math/bits.deBruijn64tab", laid_math_bits_deBruijn64tab), ("internal/strconv.uint64pow10", laid_internal_strconv_uint64pow10), ("pounce/mark.steps", laid_pounce_mark_steps), ("unicode/utf8.acceptRanges", laid_unicode_utf8_acceptRanges), ("strconv.ErrRange", laid_strconv_ErrRange), ("strconv.ErrSyntax", laid_strconv_ErrSyntax), ("pounce/source.kept", laid_pounce_source_kept), ("unicode/utf8.first", laid_unicode_utf8_first)], narrowed := true }
def AllowMoreUptoSaid : Prop := allowMoreUptoRow.holds Tryz.pinned (OpenSpec.upto allowMoreSpec)

end Rows
end Go.Proofs.YtikphcnjknbdmaaGreatDoor
