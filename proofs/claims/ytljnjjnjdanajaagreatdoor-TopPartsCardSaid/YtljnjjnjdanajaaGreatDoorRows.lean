/-
  NARROWER THAN 'FOR EVERY INPUT', by the rows' own cells (each row's printed sentence says how): TopParts: laid · BuildInto: laid · BuildPages: laid · BuildPrints: laid · BuildVoids: laid · BuildRight: laid · BuildOrder: laid · BuildText: laid.
  DERIVED. THE GIVEN ROWS OF THIS SEAT. 8 by the template 'for every input the law returns true; each argument reads behind the call as it read before'; 0 by the template 'total and deterministic' (their statements: YtljnjjnjdanajaaGreatDoorTotals.lean).
  GIVEN WITH THE SEED: the statements are not yours to turn. If you find one false, say at which input.
  Laid BY PROGRAM, IN A SANDBOX (cutbox-rows.mjs): the forced cells as the released guide's own fill.sh prints them over the translation bd8e179ae8708822… (all of the seat's roots in one cut). By AI agents, Wed Nov 11 2026. No macro, syntax, notation, axiom, sorry.
-/
import Derived.Test.YtljnjjnjdanajaaGreatDoorChecked
import GoSem.PinnedTables
import GoSem.Claim
import GoSem.ClaimJoined
import GoSem.ClaimMapViews
import Derived.JoinedTies
import Derived.KernelRfl
namespace Go.Proofs.YtljnjjnjdanajaaGreatDoor
/- THE CELL 'sum', in the pinned program and in every row, IS THE sha256 OF THE DUMP (.gsa) THAT YtljnjjnjdanajaaGreatDoorProg.lean LOADS. Nothing in Lean hashes anything: it is a label: what it is worth is what the hold of that sum in a sandbox is worth. -/
noncomputable def Tryz.pinned : Pinned := { name := "ytljnjjnjdanajaagreatdoor", sum := "bd8e179ae8708822091839ba022ea99df1422ebffa31d0d265240a314ac0d017", checked := Tryz.checked }
namespace Rows
def none {H : Type} : Left H := { results := [], args := [] }

/- WHAT THE LISTED PACKAGE-LEVEL VARIABLES READ AS WHEN THE CALL BEGINS. Each datum BY PROGRAM (the guide's laid-datum.mjs) off the statement by which the dump's own 'gosem.cut.vars' lays the variable. In a bare row this is a premise. The card (YtljnjjnjdanajaaGreatDoorCards.lean) ties it to the program's text. -/
def laid_math_bits_deBruijn32tab {H : Type} : DataW H := .agg [.lit (.int .u8 0), .lit (.int .u8 1), .lit (.int .u8 28), .lit (.int .u8 2), .lit (.int .u8 29), .lit (.int .u8 14), .lit (.int .u8 24), .lit (.int .u8 3), .lit (.int .u8 30), .lit (.int .u8 22), .lit (.int .u8 20), .lit (.int .u8 15), .lit (.int .u8 25), .lit (.int .u8 17), .lit (.int .u8 4), .lit (.int .u8 8), .lit (.int .u8 31), .lit (.int .u8 27), .lit (.int .u8 13), .lit (.int .u8 23), .lit (.int .u8 21), .lit (.int .u8 19), .lit (.int .u8 16), .lit (.int .u8 7), .lit (.int .u8 26), .lit (.int .u8 12), .lit (.int .u8 18), .lit (.int .u8 6), .lit (.int .u8 11), .lit (.int .u8 5), .lit (.int .u8 10), .lit (.int .u8 9)]
def laid_math_bits_deBruijn64tab {H : Type} : DataW H := .agg [.lit (.int .u8 0), .lit (.int .u8 1), .lit (.int .u8 56), .lit (.int .u8 2), .lit (.int .u8 57), .lit (.int .u8 49), .lit (.int .u8 28), .lit (.int .u8 3), .lit (.int .u8 61), .lit (.int .u8 58), .lit (.int .u8 42), .lit (.int .u8 50), .lit (.int .u8 38), .lit (.int .u8 29), .lit (.int .u8 17), .lit (.int .u8 4), .lit (.int .u8 62), .lit (.int .u8 47), .lit (.int .u8 59), .lit (.int .u8 36), .lit (.int .u8 45), .lit (.int .u8 43), .lit (.int .u8 51), .lit (.int .u8 22), .lit (.int .u8 53), .lit (.int .u8 39), .lit (.int .u8 33), .lit (.int .u8 30), .lit (.int .u8 24), .lit (.int .u8 18), .lit (.int .u8 12), .lit (.int .u8 5), .lit (.int .u8 63), .lit (.int .u8 55), .lit (.int .u8 48), .lit (.int .u8 27), .lit (.int .u8 60), .lit (.int .u8 41), .lit (.int .u8 37), .lit (.int .u8 16), .lit (.int .u8 46), .lit (.int .u8 35), .lit (.int .u8 44), .lit (.int .u8 21), .lit (.int .u8 52), .lit (.int .u8 32), .lit (.int .u8 23), .lit (.int .u8 11), .lit (.int .u8 54), .lit (.int .u8 26), .lit (.int .u8 40), .lit (.int .u8 15), .lit (.int .u8 34), .lit (.int .u8 20), .lit (.int .u8 31), .lit (.int .u8 10), .lit (.int .u8 25), .lit (.int .u8 14), .lit (.int .u8 19), .lit (.int .u8 9), .lit (.int .u8 13), .lit (.int .u8 8), .lit (.int .u8 7), .lit (.int .u8 6)]
def laid_internal_strconv_uint64pow10 {H : Type} : DataW H := .agg [.lit (.int .u64 1), .lit (.int .u64 10), .lit (.int .u64 100), .lit (.int .u64 1000), .lit (.int .u64 10000), .lit (.int .u64 100000), .lit (.int .u64 1000000), .lit (.int .u64 10000000), .lit (.int .u64 100000000), .lit (.int .u64 1000000000), .lit (.int .u64 10000000000), .lit (.int .u64 100000000000), .lit (.int .u64 1000000000000), .lit (.int .u64 10000000000000), .lit (.int .u64 100000000000000), .lit (.int .u64 1000000000000000), .lit (.int .u64 10000000000000000), .lit (.int .u64 100000000000000000), .lit (.int .u64 1000000000000000000), .lit (.int .u64 10000000000000000000)]
def laid_unicode_utf8_acceptRanges {H : Type} : DataW H := .agg [.agg [.lit (.int .u8 128), .lit (.int .u8 191)], .agg [.lit (.int .u8 160), .lit (.int .u8 191)], .agg [.lit (.int .u8 128), .lit (.int .u8 159)], .agg [.lit (.int .u8 144), .lit (.int .u8 191)], .agg [.lit (.int .u8 128), .lit (.int .u8 143)], .agg [.lit (.int .u8 0), .lit (.int .u8 0)], .agg [.lit (.int .u8 0), .lit (.int .u8 0)], .agg [.lit (.int .u8 0), .lit (.int .u8 0)], .agg [.lit (.int .u8 0), .lit (.int .u8 0)], .agg [.lit (.int .u8 0), .lit (.int .u8 0)], .agg [.lit (.int .u8 0), .lit (.int .u8 0)], .agg [.lit (.int .u8 0), .lit (.int .u8 0)], .agg [.lit (.int .u8 0), .lit (.int .u8 0)], .agg [.lit (.int .u8 0), .lit (.int .u8 0)], .agg [.lit (.int .u8 0), .lit (.int .u8 0)], .agg [.lit (.int .u8 0), .lit (.int .u8 0)]]
def laid_strconv_ErrRange {H : Type} : DataW H := .iface "*errors.errorString" (.ptr (.agg [.lit (.string [118, 97, 108, 117, 101, 32, 111, 117, 116, 32, 111, 102, 32, 114, 97, 110, 103, 101])]))
def laid_strconv_ErrSyntax {H : Type} : DataW H := .iface "*errors.errorString" (.ptr (.agg [.lit (.string [105, 110, 118, 97, 108, 105, 100, 32, 115, 121, 110, 116, 97, 120])]))
def laid_pounce_entity_names {H : Type} : DataW H := .agg [.agg [.lit (.string [97, 109, 112]), .lit (.string [38])], .agg [.lit (.string [108, 116]), .lit (.string [60])], .agg [.lit (.string [103, 116]), .lit (.string [62])], .agg [.lit (.string [113, 117, 111, 116]), .lit (.string [34])], .agg [.lit (.string [97, 112, 111, 115]), .lit (.string [39])], .agg [.lit (.string [110, 98, 115, 112]), .lit (.string [194, 160])], .agg [.lit (.string [99, 111, 108, 111, 110]), .lit (.string [58])], .agg [.lit (.string [108, 112, 97, 114]), .lit (.string [40])], .agg [.lit (.string [114, 112, 97, 114]), .lit (.string [41])], .agg [.lit (.string [116, 97, 98]), .lit (.string [9])]]
/-- One of Go's own tables, pinned by name: the form's constant. -/
def laid_unicode_utf8_first : DataW Unit := Go.Pinned.utf8First

/-- 'pouncetop.TopParts': WHATEVER THE INPUT: true; the input reads as it did. -/
def topPartsSpec : ChangeSpec := { name := "topParts", fn := fun _ => fun
  | [d1, d2, d3] => { results := [.lit (.bool true)], args := [d1, d2, d3] }
  | _ => none }
def topPartsRow : OpenClaim := { program := "ytljnjjnjdanajaagreatdoor", sum := "bd8e179ae8708822091839ba022ea99df1422ebffa31d0d265240a314ac0d017", func := "pounce/pouncetop.TopParts", spec := "topParts", inPlace := ["internal/bytealg.IndexByteString", "internal/abi.NoEscape", "internal/bytealg.IndexString"], unfollowed := true, recurses := true, named := ["internal/bytealg.MaxLen", "pounce/entity.names", "strconv.ErrSyntax", "strconv.ErrRange", "internal/strconv.uint64pow10", "math/bits.deBruijn32tab", "math/bits.deBruijn64tab", "unicode/utf8.first", "unicode/utf8.acceptRanges"], apart := false, laid := [("math/bits.deBruijn32tab", laid_math_bits_deBruijn32tab), ("math/bits.deBruijn64tab", laid_math_bits_deBruijn64tab), ("internal/strconv.uint64pow10", laid_internal_strconv_uint64pow10), ("unicode/utf8.acceptRanges", laid_unicode_utf8_acceptRanges), ("strconv.ErrRange", laid_strconv_ErrRange), ("strconv.ErrSyntax", laid_strconv_ErrSyntax), ("pounce/entity.names", laid_pounce_entity_names), ("unicode/utf8.first", laid_unicode_utf8_first)] }
def TopPartsSaid : Prop := topPartsRow.holds Tryz.pinned (OpenSpec.ofChange topPartsSpec)

/-- ITS FALSE NEIGHBOUR: 'it returns false'. Refute it at one input. -/
def topPartsWrong : ChangeSpec := { name := "topParts", fn := fun _ => fun
  | [d1, d2, d3] => { results := [.lit (.bool false)], args := [d1, d2, d3] }
  | _ => none }
def TopPartsWrongFalsely : Prop := topPartsRow.holds Tryz.pinned (OpenSpec.ofChange topPartsWrong)

/-- 'pouncelaw17.BuildInto': WHATEVER THE INPUT: true; the input reads as it did. -/
def buildIntoSpec : ChangeSpec := { name := "buildInto", fn := fun _ => fun
  | [d1, d2, d3, d4] => { results := [.lit (.bool true)], args := [d1, d2, d3, d4] }
  | _ => none }
def buildIntoRow : OpenClaim := { program := "ytljnjjnjdanajaagreatdoor", sum := "bd8e179ae8708822091839ba022ea99df1422ebffa31d0d265240a314ac0d017", func := "pounce/pouncelaw17.BuildInto", spec := "buildInto", inPlace := ["internal/bytealg.IndexByteString", "internal/abi.NoEscape", "internal/bytealg.IndexString"], unfollowed := true, recurses := true, named := ["internal/bytealg.MaxLen", "pounce/entity.names", "strconv.ErrSyntax", "strconv.ErrRange", "internal/strconv.uint64pow10", "math/bits.deBruijn32tab", "math/bits.deBruijn64tab", "unicode/utf8.first", "unicode/utf8.acceptRanges"], apart := false, laid := [("math/bits.deBruijn32tab", laid_math_bits_deBruijn32tab), ("math/bits.deBruijn64tab", laid_math_bits_deBruijn64tab), ("internal/strconv.uint64pow10", laid_internal_strconv_uint64pow10), ("unicode/utf8.acceptRanges", laid_unicode_utf8_acceptRanges), ("strconv.ErrRange", laid_strconv_ErrRange), ("strconv.ErrSyntax", laid_strconv_ErrSyntax), ("pounce/entity.names", laid_pounce_entity_names), ("unicode/utf8.first", laid_unicode_utf8_first)] }
def BuildIntoSaid : Prop := buildIntoRow.holds Tryz.pinned (OpenSpec.ofChange buildIntoSpec)

/-- ITS FALSE NEIGHBOUR: 'it returns false'. Refute it at one input. -/
def buildIntoWrong : ChangeSpec := { name := "buildInto", fn := fun _ => fun
  | [d1, d2, d3, d4] => { results := [.lit (.bool false)], args := [d1, d2, d3, d4] }
  | _ => none }
def BuildIntoWrongFalsely : Prop := buildIntoRow.holds Tryz.pinned (OpenSpec.ofChange buildIntoWrong)

/-- 'pouncelaw17.BuildPages': WHATEVER THE INPUT: true; the input reads as it did. -/
def buildPagesSpec : ChangeSpec := { name := "buildPages", fn := fun _ => fun
  | [d1, d2] => { results := [.lit (.bool true)], args := [d1, d2] }
  | _ => none }
def buildPagesRow : OpenClaim := { program := "ytljnjjnjdanajaagreatdoor", sum := "bd8e179ae8708822091839ba022ea99df1422ebffa31d0d265240a314ac0d017", func := "pounce/pouncelaw17.BuildPages", spec := "buildPages", inPlace := ["internal/bytealg.IndexByteString", "internal/abi.NoEscape", "internal/bytealg.IndexString"], unfollowed := true, recurses := true, named := ["internal/bytealg.MaxLen", "pounce/entity.names", "strconv.ErrSyntax", "strconv.ErrRange", "internal/strconv.uint64pow10", "math/bits.deBruijn32tab", "math/bits.deBruijn64tab", "unicode/utf8.first", "unicode/utf8.acceptRanges"], apart := false, laid := [("math/bits.deBruijn32tab", laid_math_bits_deBruijn32tab), ("math/bits.deBruijn64tab", laid_math_bits_deBruijn64tab), ("internal/strconv.uint64pow10", laid_internal_strconv_uint64pow10), ("unicode/utf8.acceptRanges", laid_unicode_utf8_acceptRanges), ("strconv.ErrRange", laid_strconv_ErrRange), ("strconv.ErrSyntax", laid_strconv_ErrSyntax), ("pounce/entity.names", laid_pounce_entity_names), ("unicode/utf8.first", laid_unicode_utf8_first)] }
def BuildPagesSaid : Prop := buildPagesRow.holds Tryz.pinned (OpenSpec.ofChange buildPagesSpec)

/-- ITS FALSE NEIGHBOUR: 'it returns false'. Refute it at one input. -/
def buildPagesWrong : ChangeSpec := { name := "buildPages", fn := fun _ => fun
  | [d1, d2] => { results := [.lit (.bool false)], args := [d1, d2] }
  | _ => none }
def BuildPagesWrongFalsely : Prop := buildPagesRow.holds Tryz.pinned (OpenSpec.ofChange buildPagesWrong)

/-- 'pouncelaw17.BuildPrints': WHATEVER THE INPUT: true; the input reads as it did. -/
def buildPrintsSpec : ChangeSpec := { name := "buildPrints", fn := fun _ => fun
  | [d1, d2] => { results := [.lit (.bool true)], args := [d1, d2] }
  | _ => none }
def buildPrintsRow : OpenClaim := { program := "ytljnjjnjdanajaagreatdoor", sum := "bd8e179ae8708822091839ba022ea99df1422ebffa31d0d265240a314ac0d017", func := "pounce/pouncelaw17.BuildPrints", spec := "buildPrints", inPlace := ["internal/bytealg.IndexByteString", "internal/abi.NoEscape", "internal/bytealg.IndexString"], unfollowed := true, recurses := true, named := ["internal/bytealg.MaxLen", "pounce/entity.names", "strconv.ErrSyntax", "strconv.ErrRange", "internal/strconv.uint64pow10", "math/bits.deBruijn32tab", "math/bits.deBruijn64tab", "unicode/utf8.first", "unicode/utf8.acceptRanges"], apart := false, laid := [("math/bits.deBruijn32tab", laid_math_bits_deBruijn32tab), ("math/bits.deBruijn64tab", laid_math_bits_deBruijn64tab), ("internal/strconv.uint64pow10", laid_internal_strconv_uint64pow10), ("unicode/utf8.acceptRanges", laid_unicode_utf8_acceptRanges), ("strconv.ErrRange", laid_strconv_ErrRange), ("strconv.ErrSyntax", laid_strconv_ErrSyntax), ("pounce/entity.names", laid_pounce_entity_names), ("unicode/utf8.first", laid_unicode_utf8_first)] }
def BuildPrintsSaid : Prop := buildPrintsRow.holds Tryz.pinned (OpenSpec.ofChange buildPrintsSpec)

/-- ITS FALSE NEIGHBOUR: 'it returns false'. Refute it at one input. -/
def buildPrintsWrong : ChangeSpec := { name := "buildPrints", fn := fun _ => fun
  | [d1, d2] => { results := [.lit (.bool false)], args := [d1, d2] }
  | _ => none }
def BuildPrintsWrongFalsely : Prop := buildPrintsRow.holds Tryz.pinned (OpenSpec.ofChange buildPrintsWrong)

/-- 'pouncelaw17.BuildVoids': WHATEVER THE INPUT: true; the input reads as it did. -/
def buildVoidsSpec : ChangeSpec := { name := "buildVoids", fn := fun _ => fun
  | [d] => { results := [.lit (.bool true)], args := [d] }
  | _ => none }
def buildVoidsRow : OpenClaim := { program := "ytljnjjnjdanajaagreatdoor", sum := "bd8e179ae8708822091839ba022ea99df1422ebffa31d0d265240a314ac0d017", func := "pounce/pouncelaw17.BuildVoids", spec := "buildVoids", inPlace := ["internal/bytealg.IndexByteString", "internal/abi.NoEscape", "internal/bytealg.IndexString"], unfollowed := true, recurses := true, named := ["internal/bytealg.MaxLen", "pounce/entity.names", "strconv.ErrSyntax", "strconv.ErrRange", "internal/strconv.uint64pow10", "math/bits.deBruijn32tab", "math/bits.deBruijn64tab", "unicode/utf8.first", "unicode/utf8.acceptRanges"], apart := false, laid := [("math/bits.deBruijn32tab", laid_math_bits_deBruijn32tab), ("math/bits.deBruijn64tab", laid_math_bits_deBruijn64tab), ("internal/strconv.uint64pow10", laid_internal_strconv_uint64pow10), ("unicode/utf8.acceptRanges", laid_unicode_utf8_acceptRanges), ("strconv.ErrRange", laid_strconv_ErrRange), ("strconv.ErrSyntax", laid_strconv_ErrSyntax), ("pounce/entity.names", laid_pounce_entity_names), ("unicode/utf8.first", laid_unicode_utf8_first)] }
def BuildVoidsSaid : Prop := buildVoidsRow.holds Tryz.pinned (OpenSpec.ofChange buildVoidsSpec)

/-- ITS FALSE NEIGHBOUR: 'it returns false'. Refute it at one input. -/
def buildVoidsWrong : ChangeSpec := { name := "buildVoids", fn := fun _ => fun
  | [d] => { results := [.lit (.bool false)], args := [d] }
  | _ => none }
def BuildVoidsWrongFalsely : Prop := buildVoidsRow.holds Tryz.pinned (OpenSpec.ofChange buildVoidsWrong)

/-- 'pouncelaw17.BuildRight': WHATEVER THE INPUT: true; the input reads as it did. -/
def buildRightSpec : ChangeSpec := { name := "buildRight", fn := fun _ => fun
  | [d1, d2, d3, d4] => { results := [.lit (.bool true)], args := [d1, d2, d3, d4] }
  | _ => none }
def buildRightRow : OpenClaim := { program := "ytljnjjnjdanajaagreatdoor", sum := "bd8e179ae8708822091839ba022ea99df1422ebffa31d0d265240a314ac0d017", func := "pounce/pouncelaw17.BuildRight", spec := "buildRight", inPlace := ["internal/bytealg.IndexByteString", "internal/abi.NoEscape", "internal/bytealg.IndexString"], unfollowed := true, recurses := true, named := ["internal/bytealg.MaxLen", "pounce/entity.names", "strconv.ErrSyntax", "strconv.ErrRange", "internal/strconv.uint64pow10", "math/bits.deBruijn32tab", "math/bits.deBruijn64tab", "unicode/utf8.first", "unicode/utf8.acceptRanges"], apart := false, laid := [("math/bits.deBruijn32tab", laid_math_bits_deBruijn32tab), ("math/bits.deBruijn64tab", laid_math_bits_deBruijn64tab), ("internal/strconv.uint64pow10", laid_internal_strconv_uint64pow10), ("unicode/utf8.acceptRanges", laid_unicode_utf8_acceptRanges), ("strconv.ErrRange", laid_strconv_ErrRange), ("strconv.ErrSyntax", laid_strconv_ErrSyntax), ("pounce/entity.names", laid_pounce_entity_names), ("unicode/utf8.first", laid_unicode_utf8_first)] }
def BuildRightSaid : Prop := buildRightRow.holds Tryz.pinned (OpenSpec.ofChange buildRightSpec)

/-- ITS FALSE NEIGHBOUR: 'it returns false'. Refute it at one input. -/
def buildRightWrong : ChangeSpec := { name := "buildRight", fn := fun _ => fun
  | [d1, d2, d3, d4] => { results := [.lit (.bool false)], args := [d1, d2, d3, d4] }
  | _ => none }
def BuildRightWrongFalsely : Prop := buildRightRow.holds Tryz.pinned (OpenSpec.ofChange buildRightWrong)

/-- 'pouncelaw17.BuildOrder': WHATEVER THE INPUT: true; the input reads as it did. -/
def buildOrderSpec : ChangeSpec := { name := "buildOrder", fn := fun _ => fun
  | [d] => { results := [.lit (.bool true)], args := [d] }
  | _ => none }
def buildOrderRow : OpenClaim := { program := "ytljnjjnjdanajaagreatdoor", sum := "bd8e179ae8708822091839ba022ea99df1422ebffa31d0d265240a314ac0d017", func := "pounce/pouncelaw17.BuildOrder", spec := "buildOrder", inPlace := ["internal/bytealg.IndexByteString", "internal/abi.NoEscape", "internal/bytealg.IndexString"], unfollowed := true, recurses := true, named := ["internal/bytealg.MaxLen", "pounce/entity.names", "strconv.ErrSyntax", "strconv.ErrRange", "internal/strconv.uint64pow10", "math/bits.deBruijn32tab", "math/bits.deBruijn64tab", "unicode/utf8.first", "unicode/utf8.acceptRanges"], apart := false, laid := [("math/bits.deBruijn32tab", laid_math_bits_deBruijn32tab), ("math/bits.deBruijn64tab", laid_math_bits_deBruijn64tab), ("internal/strconv.uint64pow10", laid_internal_strconv_uint64pow10), ("unicode/utf8.acceptRanges", laid_unicode_utf8_acceptRanges), ("strconv.ErrRange", laid_strconv_ErrRange), ("strconv.ErrSyntax", laid_strconv_ErrSyntax), ("pounce/entity.names", laid_pounce_entity_names), ("unicode/utf8.first", laid_unicode_utf8_first)] }
def BuildOrderSaid : Prop := buildOrderRow.holds Tryz.pinned (OpenSpec.ofChange buildOrderSpec)

/-- ITS FALSE NEIGHBOUR: 'it returns false'. Refute it at one input. -/
def buildOrderWrong : ChangeSpec := { name := "buildOrder", fn := fun _ => fun
  | [d] => { results := [.lit (.bool false)], args := [d] }
  | _ => none }
def BuildOrderWrongFalsely : Prop := buildOrderRow.holds Tryz.pinned (OpenSpec.ofChange buildOrderWrong)

/-- 'pouncelaw17.BuildText': WHATEVER THE INPUT: true; the input reads as it did. -/
def buildTextSpec : ChangeSpec := { name := "buildText", fn := fun _ => fun
  | [d] => { results := [.lit (.bool true)], args := [d] }
  | _ => none }
def buildTextRow : OpenClaim := { program := "ytljnjjnjdanajaagreatdoor", sum := "bd8e179ae8708822091839ba022ea99df1422ebffa31d0d265240a314ac0d017", func := "pounce/pouncelaw17.BuildText", spec := "buildText", inPlace := ["internal/bytealg.IndexByteString", "internal/abi.NoEscape", "internal/bytealg.IndexString"], unfollowed := true, recurses := true, named := ["internal/bytealg.MaxLen", "pounce/entity.names", "strconv.ErrSyntax", "strconv.ErrRange", "internal/strconv.uint64pow10", "math/bits.deBruijn32tab", "math/bits.deBruijn64tab", "unicode/utf8.first", "unicode/utf8.acceptRanges"], apart := false, laid := [("math/bits.deBruijn32tab", laid_math_bits_deBruijn32tab), ("math/bits.deBruijn64tab", laid_math_bits_deBruijn64tab), ("internal/strconv.uint64pow10", laid_internal_strconv_uint64pow10), ("unicode/utf8.acceptRanges", laid_unicode_utf8_acceptRanges), ("strconv.ErrRange", laid_strconv_ErrRange), ("strconv.ErrSyntax", laid_strconv_ErrSyntax), ("pounce/entity.names", laid_pounce_entity_names), ("unicode/utf8.first", laid_unicode_utf8_first)] }
def BuildTextSaid : Prop := buildTextRow.holds Tryz.pinned (OpenSpec.ofChange buildTextSpec)

/-- ITS FALSE NEIGHBOUR: 'it returns false'. Refute it at one input. -/
def buildTextWrong : ChangeSpec := { name := "buildText", fn := fun _ => fun
  | [d] => { results := [.lit (.bool false)], args := [d] }
  | _ => none }
def BuildTextWrongFalsely : Prop := buildTextRow.holds Tryz.pinned (OpenSpec.ofChange buildTextWrong)

/- THE SECOND FORM. 'bulk': how many values and letters a reading holds, each counted each time it is reached (what is shared counts as often as it is met; a slice's spare places count too). A statement '..UptoSaid' is the law's where the arguments, and the package variables that the reading takes, are together of bulk at most 1048576: NARROWER than '..Said'. Prove '..Said' where nothing that the law and all that it calls make is longer than what came in: it says more and counts as full. Else prove '..UptoSaid'. A law counts once. -/
mutual
def uptoBulk {H : Type} : DataW H → Nat
  | .lit (.string bytes) => bytes.length + 1
  | .lit _ => 1
  | .nil => 1
  | .ptr d => uptoBulk d + 1
  | .slice elems spare => uptoBulkAll elems + uptoBulkAll spare + 1
  | .agg parts => uptoBulkAll parts + 1
  | .iface _ d => uptoBulk d + 1
  | .map entries => uptoBulkEntries entries + 1
  | .held _ => 1
def uptoBulkAll {H : Type} : List (DataW H) → Nat
  | [] => 0
  | d :: r => uptoBulk d + uptoBulkAll r
def uptoBulkEntries {H : Type} : List (Lit × DataW H) → Nat
  | [] => 0
  | x :: r => uptoBulkEntry x + uptoBulkEntries r
def uptoBulkEntry {H : Type} : Lit × DataW H → Nat
  | (.string bytes, d) => bytes.length + uptoBulk d + 1
  | (_, d) => uptoBulk d + 1
 end
def uptoSmall : (H : Type) → List (DataW H) → Bool := fun _ ds => decide (uptoBulkAll ds ≤ 1048576)
def OpenSpec.upto (s : _root_.Go.ChangeSpec) : _root_.Go.OpenSpec := { _root_.Go.OpenSpec.ofChange s with cond := some uptoSmall }

/-- 'pouncetop.TopParts', WHERE WHAT IT READS IS OF BULK AT MOST 1048576: true; the input reads as it did. -/
def topPartsUptoRow : OpenClaim := { program := "ytljnjjnjdanajaagreatdoor", sum := "bd8e179ae8708822091839ba022ea99df1422ebffa31d0d265240a314ac0d017", func := "pounce/pouncetop.TopParts", spec := "topParts", inPlace := ["internal/bytealg.IndexByteString", "internal/abi.NoEscape", "internal/bytealg.IndexString"], unfollowed := true, recurses := true, named := ["internal/bytealg.MaxLen", "pounce/entity.names", "strconv.ErrSyntax", "strconv.ErrRange", "internal/strconv.uint64pow10", "math/bits.deBruijn32tab", "math/bits.deBruijn64tab", "unicode/utf8.first", "unicode/utf8.acceptRanges"], apart := false, laid := [("math/bits.deBruijn32tab", laid_math_bits_deBruijn32tab), ("math/bits.deBruijn64tab", laid_math_bits_deBruijn64tab), ("internal/strconv.uint64pow10", laid_internal_strconv_uint64pow10), ("unicode/utf8.acceptRanges", laid_unicode_utf8_acceptRanges), ("strconv.ErrRange", laid_strconv_ErrRange), ("strconv.ErrSyntax", laid_strconv_ErrSyntax), ("pounce/entity.names", laid_pounce_entity_names), ("unicode/utf8.first", laid_unicode_utf8_first)], narrowed := true }
def TopPartsUptoSaid : Prop := topPartsUptoRow.holds Tryz.pinned (OpenSpec.upto topPartsSpec)

/-- 'pouncelaw17.BuildInto', WHERE WHAT IT READS IS OF BULK AT MOST 1048576: true; the input reads as it did. -/
def buildIntoUptoRow : OpenClaim := { program := "ytljnjjnjdanajaagreatdoor", sum := "bd8e179ae8708822091839ba022ea99df1422ebffa31d0d265240a314ac0d017", func := "pounce/pouncelaw17.BuildInto", spec := "buildInto", inPlace := ["internal/bytealg.IndexByteString", "internal/abi.NoEscape", "internal/bytealg.IndexString"], unfollowed := true, recurses := true, named := ["internal/bytealg.MaxLen", "pounce/entity.names", "strconv.ErrSyntax", "strconv.ErrRange", "internal/strconv.uint64pow10", "math/bits.deBruijn32tab", "math/bits.deBruijn64tab", "unicode/utf8.first", "unicode/utf8.acceptRanges"], apart := false, laid := [("math/bits.deBruijn32tab", laid_math_bits_deBruijn32tab), ("math/bits.deBruijn64tab", laid_math_bits_deBruijn64tab), ("internal/strconv.uint64pow10", laid_internal_strconv_uint64pow10), ("unicode/utf8.acceptRanges", laid_unicode_utf8_acceptRanges), ("strconv.ErrRange", laid_strconv_ErrRange), ("strconv.ErrSyntax", laid_strconv_ErrSyntax), ("pounce/entity.names", laid_pounce_entity_names), ("unicode/utf8.first", laid_unicode_utf8_first)], narrowed := true }
def BuildIntoUptoSaid : Prop := buildIntoUptoRow.holds Tryz.pinned (OpenSpec.upto buildIntoSpec)

/-- 'pouncelaw17.BuildPages', WHERE WHAT IT READS IS OF BULK AT MOST 1048576: true; the input reads as it did. -/
def buildPagesUptoRow : OpenClaim := { program := "ytljnjjnjdanajaagreatdoor", sum := "bd8e179ae8708822091839ba022ea99df1422ebffa31d0d265240a314ac0d017", func := "pounce/pouncelaw17.BuildPages", spec := "buildPages", inPlace := ["internal/bytealg.IndexByteString", "internal/abi.NoEscape", "internal/bytealg.IndexString"], unfollowed := true, recurses := true, named := ["internal/bytealg.MaxLen", "pounce/entity.names", "strconv.ErrSyntax", "strconv.ErrRange", "internal/strconv.uint64pow10", "math/bits.deBruijn32tab", "math/bits.deBruijn64tab", "unicode/utf8.first", "unicode/utf8.acceptRanges"], apart := false, laid := [("math/bits.deBruijn32tab", laid_math_bits_deBruijn32tab), ("math/bits.deBruijn64tab", laid_math_bits_deBruijn64tab), ("internal/strconv.uint64pow10", laid_internal_strconv_uint64pow10), ("unicode/utf8.acceptRanges", laid_unicode_utf8_acceptRanges), ("strconv.ErrRange", laid_strconv_ErrRange), ("strconv.ErrSyntax", laid_strconv_ErrSyntax), ("pounce/entity.names", laid_pounce_entity_names), ("unicode/utf8.first", laid_unicode_utf8_first)], narrowed := true }
def BuildPagesUptoSaid : Prop := buildPagesUptoRow.holds Tryz.pinned (OpenSpec.upto buildPagesSpec)

/-- 'pouncelaw17.BuildPrints', WHERE WHAT IT READS IS OF BULK AT MOST 1048576: true; the input reads as it did. -/
def buildPrintsUptoRow : OpenClaim := { program := "ytljnjjnjdanajaagreatdoor", sum := "bd8e179ae8708822091839ba022ea99df1422ebffa31d0d265240a314ac0d017", func := "pounce/pouncelaw17.BuildPrints", spec := "buildPrints", inPlace := ["internal/bytealg.IndexByteString", "internal/abi.NoEscape", "internal/bytealg.IndexString"], unfollowed := true, recurses := true, named := ["internal/bytealg.MaxLen", "pounce/entity.names", "strconv.ErrSyntax", "strconv.ErrRange", "internal/strconv.uint64pow10", "math/bits.deBruijn32tab", "math/bits.deBruijn64tab", "unicode/utf8.first", "unicode/utf8.acceptRanges"], apart := false, laid := [("math/bits.deBruijn32tab", laid_math_bits_deBruijn32tab), ("math/bits.deBruijn64tab", laid_math_bits_deBruijn64tab), ("internal/strconv.uint64pow10", laid_internal_strconv_uint64pow10), ("unicode/utf8.acceptRanges", laid_unicode_utf8_acceptRanges), ("strconv.ErrRange", laid_strconv_ErrRange), ("strconv.ErrSyntax", laid_strconv_ErrSyntax), ("pounce/entity.names", laid_pounce_entity_names), ("unicode/utf8.first", laid_unicode_utf8_first)], narrowed := true }
def BuildPrintsUptoSaid : Prop := buildPrintsUptoRow.holds Tryz.pinned (OpenSpec.upto buildPrintsSpec)

/-- 'pouncelaw17.BuildVoids', WHERE WHAT IT READS IS OF BULK AT MOST 1048576: true; the input reads as it did. -/
def buildVoidsUptoRow : OpenClaim := { program := "ytljnjjnjdanajaagreatdoor", sum := "bd8e179ae8708822091839ba022ea99df1422ebffa31d0d265240a314ac0d017", func := "pounce/pouncelaw17.BuildVoids", spec := "buildVoids", inPlace := ["internal/bytealg.IndexByteString", "internal/abi.NoEscape", "internal/bytealg.IndexString"], unfollowed := true, recurses := true, named := ["internal/bytealg.MaxLen", "pounce/entity.names", "strconv.ErrSyntax", "strconv.ErrRange", "internal/strconv.uint64pow10", "math/bits.deBruijn32tab", "math/bits.deBruijn64tab", "unicode/utf8.first", "unicode/utf8.acceptRanges"], apart := false, laid := [("math/bits.deBruijn32tab", laid_math_bits_deBruijn32tab), ("math/bits.deBruijn64tab", laid_math_bits_deBruijn64tab), ("internal/strconv.uint64pow10", laid_internal_strconv_uint64pow10), ("unicode/utf8.acceptRanges", laid_unicode_utf8_acceptRanges), ("strconv.ErrRange", laid_strconv_ErrRange), ("strconv.ErrSyntax", laid_strconv_ErrSyntax), ("pounce/entity.names", laid_pounce_entity_names), ("unicode/utf8.first", laid_unicode_utf8_first)], narrowed := true }
def BuildVoidsUptoSaid : Prop := buildVoidsUptoRow.holds Tryz.pinned (OpenSpec.upto buildVoidsSpec)

/-- 'pouncelaw17.BuildRight', WHERE WHAT IT READS IS OF BULK AT MOST 1048576: true; the input reads as it did. -/
def buildRightUptoRow : OpenClaim := { program := "ytljnjjnjdanajaagreatdoor", sum := "bd8e179ae8708822091839ba022ea99df1422ebffa31d0d265240a314ac0d017", func := "pounce/pouncelaw17.BuildRight", spec := "buildRight", inPlace := ["internal/bytealg.IndexByteString", "internal/abi.NoEscape", "internal/bytealg.IndexString"], unfollowed := true, recurses := true, named := ["internal/bytealg.MaxLen", "pounce/entity.names", "strconv.ErrSyntax", "strconv.ErrRange", "internal/strconv.uint64pow10", "math/bits.deBruijn32tab", "math/bits.deBruijn64tab", "unicode/utf8.first", "unicode/utf8.acceptRanges"], apart := false, laid := [("math/bits.deBruijn32tab", laid_math_bits_deBruijn32tab), ("math/bits.deBruijn64tab", laid_math_bits_deBruijn64tab), ("internal/strconv.uint64pow10", laid_internal_strconv_uint64pow10), ("unicode/utf8.acceptRanges", laid_unicode_utf8_acceptRanges), ("strconv.ErrRange", laid_strconv_ErrRange), ("strconv.ErrSyntax", laid_strconv_ErrSyntax), ("pounce/entity.names", laid_pounce_entity_names), ("unicode/utf8.first", laid_unicode_utf8_first)], narrowed := true }
def BuildRightUptoSaid : Prop := buildRightUptoRow.holds Tryz.pinned (OpenSpec.upto buildRightSpec)

/-- 'pouncelaw17.BuildOrder', WHERE WHAT IT READS IS OF BULK AT MOST 1048576: true; the input reads as it did. -/
def buildOrderUptoRow : OpenClaim := { program := "ytljnjjnjdanajaagreatdoor", sum := "bd8e179ae8708822091839ba022ea99df1422ebffa31d0d265240a314ac0d017", func := "pounce/pouncelaw17.BuildOrder", spec := "buildOrder", inPlace := ["internal/bytealg.IndexByteString", "internal/abi.NoEscape", "internal/bytealg.IndexString"], unfollowed := true, recurses := true, named := ["internal/bytealg.MaxLen", "pounce/entity.names", "strconv.ErrSyntax", "strconv.ErrRange", "internal/strconv.uint64pow10", "math/bits.deBruijn32tab", "math/bits.deBruijn64tab", "unicode/utf8.first", "unicode/utf8.acceptRanges"], apart := false, laid := [("math/bits.deBruijn32tab", laid_math_bits_deBruijn32tab), ("math/bits.deBruijn64tab", laid_math_bits_deBruijn64tab), ("internal/strconv.uint64pow10", laid_internal_strconv_uint64pow10), ("unicode/utf8.acceptRanges", laid_unicode_utf8_acceptRanges), ("strconv.ErrRange", laid_strconv_ErrRange), ("strconv.ErrSyntax", laid_strconv_ErrSyntax), ("pounce/entity.names", laid_pounce_entity_names), ("unicode/utf8.first", laid_unicode_utf8_first)], narrowed := true }
def BuildOrderUptoSaid : Prop := buildOrderUptoRow.holds Tryz.pinned (OpenSpec.upto buildOrderSpec)

/-- 'pouncelaw17.BuildText', WHERE WHAT IT READS IS OF BULK AT MOST 1048576: true; the input reads as it did. -/
def buildTextUptoRow : OpenClaim := { program := "ytljnjjnjdanajaagreatdoor", sum := "bd8e179ae8708822091839ba022ea99df1422ebffa31d0d265240a314ac0d017", func := "pounce/pouncelaw17.BuildText", spec := "buildText", inPlace := ["internal/bytealg.IndexByteString", "internal/abi.NoEscape", "internal/bytealg.IndexString"], unfollowed := true, recurses := true, named := ["internal/bytealg.MaxLen", "pounce/entity.names", "strconv.ErrSyntax", "strconv.ErrRange", "internal/strconv.uint64pow10", "math/bits.deBruijn32tab", "math/bits.deBruijn64tab", "unicode/utf8.first", "unicode/utf8.acceptRanges"], apart := false, laid := [("math/bits.deBruijn32tab", laid_math_bits_deBruijn32tab), ("math/bits.deBruijn64tab", laid_math_bits_deBruijn64tab), ("internal/strconv.uint64pow10", laid_internal_strconv_uint64pow10), ("unicode/utf8.acceptRanges", laid_unicode_utf8_acceptRanges), ("strconv.ErrRange", laid_strconv_ErrRange), ("strconv.ErrSyntax", laid_strconv_ErrSyntax), ("pounce/entity.names", laid_pounce_entity_names), ("unicode/utf8.first", laid_unicode_utf8_first)], narrowed := true }
def BuildTextUptoSaid : Prop := buildTextUptoRow.holds Tryz.pinned (OpenSpec.upto buildTextSpec)

end Rows
end Go.Proofs.YtljnjjnjdanajaaGreatDoor
