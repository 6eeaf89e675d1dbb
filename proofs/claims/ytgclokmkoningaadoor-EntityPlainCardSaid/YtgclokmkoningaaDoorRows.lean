/-
  NARROWER THAN 'FOR EVERY INPUT', by the rows' own cells (each row's printed sentence says how): EntityDecodes: laid · EntityEncodes: laid · EntityBack: laid · EntityPlain: laid · EntityNames: laid · EntityJoins: laid.
  DERIVED. THE GIVEN ROWS OF THIS SEAT. 6 by the template 'for every input the law returns true; each argument reads behind the call as it read before'; 0 by the template 'total and deterministic' (their statements: YtgclokmkoningaaDoorTotals.lean).
  GIVEN WITH THE SEED: the statements are not yours to turn. If you find one false, say at which input.
  Laid BY PROGRAM, IN A SANDBOX (cutbox-rows.mjs): the forced cells as the released guide's own fill.sh prints them over the translation 6c72fe88ea37fb63… (all of the seat's roots in one cut). By AI agents, Wed Nov 11 2026. No macro, syntax, notation, axiom, sorry.
-/
import Derived.Test.YtgclokmkoningaaDoorChecked
import GoSem.Claim
import GoSem.ClaimJoined
import GoSem.ClaimMapViews
import Derived.JoinedTies
import Derived.KernelRfl
namespace Go.Proofs.YtgclokmkoningaaDoor
/- THE CELL 'sum', in the pinned program and in every row, IS THE sha256 OF THE DUMP (.gsa) THAT YtgclokmkoningaaDoorProg.lean LOADS. Nothing in Lean hashes anything: it is a label: what it is worth is what the hold of that sum in a sandbox is worth. -/
noncomputable def Tryd.pinned : Pinned := { name := "ytgclokmkoningaadoor", sum := "6c72fe88ea37fb634d03b022eb61d0ada28ad2f68d764bb84100ecba6f014324", checked := Tryd.checked }
namespace Rows
def none {H : Type} : Left H := { results := [], args := [] }

/- WHAT THE LISTED PACKAGE-LEVEL VARIABLES READ AS WHEN THE CALL BEGINS. Each datum BY PROGRAM (the guide's laid-datum.mjs) off the statement by which the dump's own 'gosem.cut.vars' lays the variable. In a bare row this is a premise. The card (YtgclokmkoningaaDoorCards.lean) ties it to the program's text. -/
def laid_math_bits_deBruijn32tab {H : Type} : DataW H := .agg [.lit (.int .u8 0), .lit (.int .u8 1), .lit (.int .u8 28), .lit (.int .u8 2), .lit (.int .u8 29), .lit (.int .u8 14), .lit (.int .u8 24), .lit (.int .u8 3), .lit (.int .u8 30), .lit (.int .u8 22), .lit (.int .u8 20), .lit (.int .u8 15), .lit (.int .u8 25), .lit (.int .u8 17), .lit (.int .u8 4), .lit (.int .u8 8), .lit (.int .u8 31), .lit (.int .u8 27), .lit (.int .u8 13), .lit (.int .u8 23), .lit (.int .u8 21), .lit (.int .u8 19), .lit (.int .u8 16), .lit (.int .u8 7), .lit (.int .u8 26), .lit (.int .u8 12), .lit (.int .u8 18), .lit (.int .u8 6), .lit (.int .u8 11), .lit (.int .u8 5), .lit (.int .u8 10), .lit (.int .u8 9)]
def laid_math_bits_deBruijn64tab {H : Type} : DataW H := .agg [.lit (.int .u8 0), .lit (.int .u8 1), .lit (.int .u8 56), .lit (.int .u8 2), .lit (.int .u8 57), .lit (.int .u8 49), .lit (.int .u8 28), .lit (.int .u8 3), .lit (.int .u8 61), .lit (.int .u8 58), .lit (.int .u8 42), .lit (.int .u8 50), .lit (.int .u8 38), .lit (.int .u8 29), .lit (.int .u8 17), .lit (.int .u8 4), .lit (.int .u8 62), .lit (.int .u8 47), .lit (.int .u8 59), .lit (.int .u8 36), .lit (.int .u8 45), .lit (.int .u8 43), .lit (.int .u8 51), .lit (.int .u8 22), .lit (.int .u8 53), .lit (.int .u8 39), .lit (.int .u8 33), .lit (.int .u8 30), .lit (.int .u8 24), .lit (.int .u8 18), .lit (.int .u8 12), .lit (.int .u8 5), .lit (.int .u8 63), .lit (.int .u8 55), .lit (.int .u8 48), .lit (.int .u8 27), .lit (.int .u8 60), .lit (.int .u8 41), .lit (.int .u8 37), .lit (.int .u8 16), .lit (.int .u8 46), .lit (.int .u8 35), .lit (.int .u8 44), .lit (.int .u8 21), .lit (.int .u8 52), .lit (.int .u8 32), .lit (.int .u8 23), .lit (.int .u8 11), .lit (.int .u8 54), .lit (.int .u8 26), .lit (.int .u8 40), .lit (.int .u8 15), .lit (.int .u8 34), .lit (.int .u8 20), .lit (.int .u8 31), .lit (.int .u8 10), .lit (.int .u8 25), .lit (.int .u8 14), .lit (.int .u8 19), .lit (.int .u8 9), .lit (.int .u8 13), .lit (.int .u8 8), .lit (.int .u8 7), .lit (.int .u8 6)]
def laid_internal_strconv_uint64pow10 {H : Type} : DataW H := .agg [.lit (.int .u64 1), .lit (.int .u64 10), .lit (.int .u64 100), .lit (.int .u64 1000), .lit (.int .u64 10000), .lit (.int .u64 100000), .lit (.int .u64 1000000), .lit (.int .u64 10000000), .lit (.int .u64 100000000), .lit (.int .u64 1000000000), .lit (.int .u64 10000000000), .lit (.int .u64 100000000000), .lit (.int .u64 1000000000000), .lit (.int .u64 10000000000000), .lit (.int .u64 100000000000000), .lit (.int .u64 1000000000000000), .lit (.int .u64 10000000000000000), .lit (.int .u64 100000000000000000), .lit (.int .u64 1000000000000000000), .lit (.int .u64 10000000000000000000)]
def laid_strconv_ErrRange {H : Type} : DataW H := .iface "*errors.errorString" (.ptr (.agg [.lit (.string [118, 97, 108, 117, 101, 32, 111, 117, 116, 32, 111, 102, 32, 114, 97, 110, 103, 101])]))
def laid_strconv_ErrSyntax {H : Type} : DataW H := .iface "*errors.errorString" (.ptr (.agg [.lit (.string [105, 110, 118, 97, 108, 105, 100, 32, 115, 121, 110, 116, 97, 120])]))
def laid_pounce_entity_names {H : Type} : DataW H := .agg [.agg [.lit (.string [97, 109, 112]), .lit (.string [38])], .agg [.lit (.string [108, 116]), .lit (.string [60])], .agg [.lit (.string [103, 116]), .lit (.string [62])], .agg [.lit (.string [113, 117, 111, 116]), .lit (.string [34])], .agg [.lit (.string [97, 112, 111, 115]), .lit (.string [39])], .agg [.lit (.string [110, 98, 115, 112]), .lit (.string [194, 160])], .agg [.lit (.string [99, 111, 108, 111, 110]), .lit (.string [58])], .agg [.lit (.string [108, 112, 97, 114]), .lit (.string [40])], .agg [.lit (.string [114, 112, 97, 114]), .lit (.string [41])], .agg [.lit (.string [116, 97, 98]), .lit (.string [9])]]

/-- 'pouncelaw13.EntityDecodes': WHATEVER THE INPUT: true; the input reads as it did. -/
def entityDecodesSpec : ChangeSpec := { name := "entityDecodes", fn := fun _ => fun
  | [d1, d2] => { results := [.lit (.bool true)], args := [d1, d2] }
  | _ => none }
def entityDecodesRow : OpenClaim := { program := "ytgclokmkoningaadoor", sum := "6c72fe88ea37fb634d03b022eb61d0ada28ad2f68d764bb84100ecba6f014324", func := "pounce/pouncelaw13.EntityDecodes", spec := "entityDecodes", inPlace := ["internal/bytealg.IndexByteString", "internal/abi.NoEscape", "internal/bytealg.IndexString"], named := ["internal/bytealg.MaxLen", "pounce/entity.names", "strconv.ErrSyntax", "strconv.ErrRange", "internal/strconv.uint64pow10", "math/bits.deBruijn32tab", "math/bits.deBruijn64tab"], apart := false, laid := [("math/bits.deBruijn32tab", laid_math_bits_deBruijn32tab), ("math/bits.deBruijn64tab", laid_math_bits_deBruijn64tab), ("internal/strconv.uint64pow10", laid_internal_strconv_uint64pow10), ("strconv.ErrRange", laid_strconv_ErrRange), ("strconv.ErrSyntax", laid_strconv_ErrSyntax), ("pounce/entity.names", laid_pounce_entity_names)] }
def EntityDecodesSaid : Prop := entityDecodesRow.holds Tryd.pinned (OpenSpec.ofChange entityDecodesSpec)

/-- ITS FALSE NEIGHBOUR: 'it returns false'. Refute it at one input. -/
def entityDecodesWrong : ChangeSpec := { name := "entityDecodes", fn := fun _ => fun
  | [d1, d2] => { results := [.lit (.bool false)], args := [d1, d2] }
  | _ => none }
def EntityDecodesWrongFalsely : Prop := entityDecodesRow.holds Tryd.pinned (OpenSpec.ofChange entityDecodesWrong)

/-- 'pouncelaw13.EntityEncodes': WHATEVER THE INPUT: true; the input reads as it did. -/
def entityEncodesSpec : ChangeSpec := { name := "entityEncodes", fn := fun _ => fun
  | [d] => { results := [.lit (.bool true)], args := [d] }
  | _ => none }
def entityEncodesRow : OpenClaim := { program := "ytgclokmkoningaadoor", sum := "6c72fe88ea37fb634d03b022eb61d0ada28ad2f68d764bb84100ecba6f014324", func := "pounce/pouncelaw13.EntityEncodes", spec := "entityEncodes", inPlace := ["internal/bytealg.IndexByteString", "internal/abi.NoEscape", "internal/bytealg.IndexString"], named := ["internal/bytealg.MaxLen", "pounce/entity.names", "strconv.ErrSyntax", "strconv.ErrRange", "internal/strconv.uint64pow10", "math/bits.deBruijn32tab", "math/bits.deBruijn64tab"], apart := false, laid := [("math/bits.deBruijn32tab", laid_math_bits_deBruijn32tab), ("math/bits.deBruijn64tab", laid_math_bits_deBruijn64tab), ("internal/strconv.uint64pow10", laid_internal_strconv_uint64pow10), ("strconv.ErrRange", laid_strconv_ErrRange), ("strconv.ErrSyntax", laid_strconv_ErrSyntax), ("pounce/entity.names", laid_pounce_entity_names)] }
def EntityEncodesSaid : Prop := entityEncodesRow.holds Tryd.pinned (OpenSpec.ofChange entityEncodesSpec)

/-- ITS FALSE NEIGHBOUR: 'it returns false'. Refute it at one input. -/
def entityEncodesWrong : ChangeSpec := { name := "entityEncodes", fn := fun _ => fun
  | [d] => { results := [.lit (.bool false)], args := [d] }
  | _ => none }
def EntityEncodesWrongFalsely : Prop := entityEncodesRow.holds Tryd.pinned (OpenSpec.ofChange entityEncodesWrong)

/-- 'pouncelaw13.EntityBack': WHATEVER THE INPUT: true; the input reads as it did. -/
def entityBackSpec : ChangeSpec := { name := "entityBack", fn := fun _ => fun
  | [d] => { results := [.lit (.bool true)], args := [d] }
  | _ => none }
def entityBackRow : OpenClaim := { program := "ytgclokmkoningaadoor", sum := "6c72fe88ea37fb634d03b022eb61d0ada28ad2f68d764bb84100ecba6f014324", func := "pounce/pouncelaw13.EntityBack", spec := "entityBack", inPlace := ["internal/abi.NoEscape", "internal/bytealg.IndexByteString", "internal/bytealg.IndexString"], named := ["pounce/entity.names", "internal/bytealg.MaxLen", "strconv.ErrSyntax", "strconv.ErrRange", "internal/strconv.uint64pow10", "math/bits.deBruijn32tab", "math/bits.deBruijn64tab"], apart := false, laid := [("math/bits.deBruijn32tab", laid_math_bits_deBruijn32tab), ("math/bits.deBruijn64tab", laid_math_bits_deBruijn64tab), ("internal/strconv.uint64pow10", laid_internal_strconv_uint64pow10), ("strconv.ErrRange", laid_strconv_ErrRange), ("strconv.ErrSyntax", laid_strconv_ErrSyntax), ("pounce/entity.names", laid_pounce_entity_names)] }
def EntityBackSaid : Prop := entityBackRow.holds Tryd.pinned (OpenSpec.ofChange entityBackSpec)

/-- ITS FALSE NEIGHBOUR: 'it returns false'. Refute it at one input. -/
def entityBackWrong : ChangeSpec := { name := "entityBack", fn := fun _ => fun
  | [d] => { results := [.lit (.bool false)], args := [d] }
  | _ => none }
def EntityBackWrongFalsely : Prop := entityBackRow.holds Tryd.pinned (OpenSpec.ofChange entityBackWrong)

/-- 'pouncelaw13.EntityPlain': WHATEVER THE INPUT: true; the input reads as it did. -/
def entityPlainSpec : ChangeSpec := { name := "entityPlain", fn := fun _ => fun
  | [d1, d2] => { results := [.lit (.bool true)], args := [d1, d2] }
  | _ => none }
def entityPlainRow : OpenClaim := { program := "ytgclokmkoningaadoor", sum := "6c72fe88ea37fb634d03b022eb61d0ada28ad2f68d764bb84100ecba6f014324", func := "pounce/pouncelaw13.EntityPlain", spec := "entityPlain", inPlace := ["internal/bytealg.IndexByteString", "internal/abi.NoEscape", "internal/bytealg.IndexString"], named := ["internal/bytealg.MaxLen", "pounce/entity.names", "strconv.ErrSyntax", "strconv.ErrRange", "internal/strconv.uint64pow10", "math/bits.deBruijn32tab", "math/bits.deBruijn64tab"], apart := false, laid := [("math/bits.deBruijn32tab", laid_math_bits_deBruijn32tab), ("math/bits.deBruijn64tab", laid_math_bits_deBruijn64tab), ("internal/strconv.uint64pow10", laid_internal_strconv_uint64pow10), ("strconv.ErrRange", laid_strconv_ErrRange), ("strconv.ErrSyntax", laid_strconv_ErrSyntax), ("pounce/entity.names", laid_pounce_entity_names)] }
def EntityPlainSaid : Prop := entityPlainRow.holds Tryd.pinned (OpenSpec.ofChange entityPlainSpec)

/-- ITS FALSE NEIGHBOUR: 'it returns false'. Refute it at one input. -/
def entityPlainWrong : ChangeSpec := { name := "entityPlain", fn := fun _ => fun
  | [d1, d2] => { results := [.lit (.bool false)], args := [d1, d2] }
  | _ => none }
def EntityPlainWrongFalsely : Prop := entityPlainRow.holds Tryd.pinned (OpenSpec.ofChange entityPlainWrong)

/-- 'pouncelaw13.EntityNames': WHATEVER THE INPUT: true; the input reads as it did. -/
def entityNamesSpec : ChangeSpec := { name := "entityNames", fn := fun _ => fun
  | [d] => { results := [.lit (.bool true)], args := [d] }
  | _ => none }
def entityNamesRow : OpenClaim := { program := "ytgclokmkoningaadoor", sum := "6c72fe88ea37fb634d03b022eb61d0ada28ad2f68d764bb84100ecba6f014324", func := "pounce/pouncelaw13.EntityNames", spec := "entityNames", inPlace := ["internal/bytealg.IndexByteString", "internal/abi.NoEscape", "internal/bytealg.IndexString"], named := ["pounce/entity.names", "internal/bytealg.MaxLen", "strconv.ErrSyntax", "strconv.ErrRange", "internal/strconv.uint64pow10", "math/bits.deBruijn32tab", "math/bits.deBruijn64tab"], apart := false, laid := [("math/bits.deBruijn32tab", laid_math_bits_deBruijn32tab), ("math/bits.deBruijn64tab", laid_math_bits_deBruijn64tab), ("internal/strconv.uint64pow10", laid_internal_strconv_uint64pow10), ("strconv.ErrRange", laid_strconv_ErrRange), ("strconv.ErrSyntax", laid_strconv_ErrSyntax), ("pounce/entity.names", laid_pounce_entity_names)] }
def EntityNamesSaid : Prop := entityNamesRow.holds Tryd.pinned (OpenSpec.ofChange entityNamesSpec)

/-- ITS FALSE NEIGHBOUR: 'it returns false'. Refute it at one input. -/
def entityNamesWrong : ChangeSpec := { name := "entityNames", fn := fun _ => fun
  | [d] => { results := [.lit (.bool false)], args := [d] }
  | _ => none }
def EntityNamesWrongFalsely : Prop := entityNamesRow.holds Tryd.pinned (OpenSpec.ofChange entityNamesWrong)

/-- 'pouncelaw13.EntityJoins': WHATEVER THE INPUT: true; the input reads as it did. -/
def entityJoinsSpec : ChangeSpec := { name := "entityJoins", fn := fun _ => fun
  | [d1, d2] => { results := [.lit (.bool true)], args := [d1, d2] }
  | _ => none }
def entityJoinsRow : OpenClaim := { program := "ytgclokmkoningaadoor", sum := "6c72fe88ea37fb634d03b022eb61d0ada28ad2f68d764bb84100ecba6f014324", func := "pounce/pouncelaw13.EntityJoins", spec := "entityJoins", inPlace := ["internal/bytealg.IndexByteString", "internal/abi.NoEscape", "internal/bytealg.IndexString"], named := ["internal/bytealg.MaxLen", "pounce/entity.names", "strconv.ErrSyntax", "strconv.ErrRange", "internal/strconv.uint64pow10", "math/bits.deBruijn32tab", "math/bits.deBruijn64tab"], apart := false, laid := [("math/bits.deBruijn32tab", laid_math_bits_deBruijn32tab), ("math/bits.deBruijn64tab", laid_math_bits_deBruijn64tab), ("internal/strconv.uint64pow10", laid_internal_strconv_uint64pow10), ("strconv.ErrRange", laid_strconv_ErrRange), ("strconv.ErrSyntax", laid_strconv_ErrSyntax), ("pounce/entity.names", laid_pounce_entity_names)] }
def EntityJoinsSaid : Prop := entityJoinsRow.holds Tryd.pinned (OpenSpec.ofChange entityJoinsSpec)

/-- ITS FALSE NEIGHBOUR: 'it returns false'. Refute it at one input. -/
def entityJoinsWrong : ChangeSpec := { name := "entityJoins", fn := fun _ => fun
  | [d1, d2] => { results := [.lit (.bool false)], args := [d1, d2] }
  | _ => none }
def EntityJoinsWrongFalsely : Prop := entityJoinsRow.holds Tryd.pinned (OpenSpec.ofChange entityJoinsWrong)

/- THE SECOND FORM. 'bulk': how many values and letters a reading holds, each counted each time it is reached (what is shared counts as often as it is met; a slice's spare places count too). A statement '..UptoSaid' is the law's where the arguments, and the package variables that the reading takes, are together of bulk at most 1048576: NARROWER than '..Said'. Prove '..Said' where nothing that the law and all that it calls make is longer than what came in: it says more and counts as full. Else prove '..UptoSaid'. A law counts once. -/
mutual
def uptoBulk {H : Type} : DataW H → Nat
  | .lit (.string bytes) => bytes.length + 1
  | .lit _ => 1
  | .nil => 1
  | .ptr d => uptoBulk d + 1
  | .slice elems spare => uptoBulkAll elems + uptoBulkAll spare + 1
  | .agg parts => uptoBulkAll parts + 1
  | .iface _ d => uptoBulk d + 1
  | .map entries => uptoBulkEntries entries + 1
  | .held _ => 1
def uptoBulkAll {H : Type} : List (DataW H) → Nat
  | [] => 0
  | d :: r => uptoBulk d + uptoBulkAll r
def uptoBulkEntries {H : Type} : List (Lit × DataW H) → Nat
  | [] => 0
  | x :: r => uptoBulkEntry x + uptoBulkEntries r
def uptoBulkEntry {H : Type} : Lit × DataW H → Nat
  | (.string bytes, d) => bytes.length + uptoBulk d + 1
  | (_, d) => uptoBulk d + 1
 end
def uptoSmall : (H : Type) → List (DataW H) → Bool := fun _ ds => decide (uptoBulkAll ds ≤ 1048576)
def OpenSpec.upto (s : _root_.Go.ChangeSpec) : _root_.Go.OpenSpec := { _root_.Go.OpenSpec.ofChange s with cond := some uptoSmall }

/-- 'pouncelaw13.EntityDecodes', WHERE WHAT IT READS IS OF BULK AT MOST 1048576: true; the input reads as it did. -/
def entityDecodesUptoRow : OpenClaim := { program := "ytgclokmkoningaadoor", sum := "6c72fe88ea37fb634d03b022eb61d0ada28ad2f68d764bb84100ecba6f014324", func := "pounce/pouncelaw13.EntityDecodes", spec := "entityDecodes", inPlace := ["internal/bytealg.IndexByteString", "internal/abi.NoEscape", "internal/bytealg.IndexString"], named := ["internal/bytealg.MaxLen", "pounce/entity.names", "strconv.ErrSyntax", "strconv.ErrRange", "internal/strconv.uint64pow10", "math/bits.deBruijn32tab", "math/bits.deBruijn64tab"], apart := false, laid := [("math/bits.deBruijn32tab", laid_math_bits_deBruijn32tab), ("math/bits.deBruijn64tab", laid_math_bits_deBruijn64tab), ("internal/strconv.uint64pow10", laid_internal_strconv_uint64pow10), ("strconv.ErrRange", laid_strconv_ErrRange), ("strconv.ErrSyntax", laid_strconv_ErrSyntax), ("pounce/entity.names", laid_pounce_entity_names)], narrowed := true }
def EntityDecodesUptoSaid : Prop := entityDecodesUptoRow.holds Tryd.pinned (OpenSpec.upto entityDecodesSpec)

/-- 'pouncelaw13.EntityEncodes', WHERE WHAT IT READS IS OF BULK AT MOST 1048576: true; the input reads as it did. -/
def entityEncodesUptoRow : OpenClaim := { program := "ytgclokmkoningaadoor", sum := "6c72fe88ea37fb634d03b022eb61d0ada28ad2f68d764bb84100ecba6f014324", func := "pounce/pouncelaw13.EntityEncodes", spec := "entityEncodes", inPlace := ["internal/bytealg.IndexByteString", "internal/abi.NoEscape", "internal/bytealg.IndexString"], named := ["internal/bytealg.MaxLen", "pounce/entity.names", "strconv.ErrSyntax", "strconv.ErrRange", "internal/strconv.uint64pow10", "math/bits.deBruijn32tab", "math/bits.deBruijn64tab"], apart := false, laid := [("math/bits.deBruijn32tab", laid_math_bits_deBruijn32tab), ("math/bits.deBruijn64tab", laid_math_bits_deBruijn64tab), ("internal/strconv.uint64pow10", laid_internal_strconv_uint64pow10), ("strconv.ErrRange", laid_strconv_ErrRange), ("strconv.ErrSyntax", laid_strconv_ErrSyntax), ("pounce/entity.names", laid_pounce_entity_names)], narrowed := true }
def EntityEncodesUptoSaid : Prop := entityEncodesUptoRow.holds Tryd.pinned (OpenSpec.upto entityEncodesSpec)

/-- 'pouncelaw13.EntityBack', WHERE WHAT IT READS IS OF BULK AT MOST 1048576: true; the input reads as it did. -/
def entityBackUptoRow : OpenClaim := { program := "ytgclokmkoningaadoor", sum := "6c72fe88ea37fb634d03b022eb61d0ada28ad2f68d764bb84100ecba6f014324", func := "pounce/pouncelaw13.EntityBack", spec := "entityBack", inPlace := ["internal/abi.NoEscape", "internal/bytealg.IndexByteString", "internal/bytealg.IndexString"], named := ["pounce/entity.names", "internal/bytealg.MaxLen", "strconv.ErrSyntax", "strconv.ErrRange", "internal/strconv.uint64pow10", "math/bits.deBruijn32tab", "math/bits.deBruijn64tab"], apart := false, laid := [("math/bits.deBruijn32tab", laid_math_bits_deBruijn32tab), ("math/bits.deBruijn64tab", laid_math_bits_deBruijn64tab), ("internal/strconv.uint64pow10", laid_internal_strconv_uint64pow10), ("strconv.ErrRange", laid_strconv_ErrRange), ("strconv.ErrSyntax", laid_strconv_ErrSyntax), ("pounce/entity.names", laid_pounce_entity_names)], narrowed := true }
def EntityBackUptoSaid : Prop := entityBackUptoRow.holds Tryd.pinned (OpenSpec.upto entityBackSpec)

/-- 'pouncelaw13.EntityPlain', WHERE WHAT IT READS IS OF BULK AT MOST 1048576: true; the input reads as it did. -/
def entityPlainUptoRow : OpenClaim := { program := "ytgclokmkoningaadoor", sum := "6c72fe88ea37fb634d03b022eb61d0ada28ad2f68d764bb84100ecba6f014324", func := "pounce/pouncelaw13.EntityPlain", spec := "entityPlain", inPlace := ["internal/bytealg.IndexByteString", "internal/abi.NoEscape", "internal/bytealg.IndexString"], named := ["internal/bytealg.MaxLen", "pounce/entity.names", "strconv.ErrSyntax", "strconv.ErrRange", "internal/strconv.uint64pow10", "math/bits.deBruijn32tab", "math/bits.deBruijn64tab"], apart := false, laid := [("math/bits.deBruijn32tab", laid_math_bits_deBruijn32tab), ("math/bits.deBruijn64tab", laid_math_bits_deBruijn64tab), ("internal/strconv.uint64pow10", laid_internal_strconv_uint64pow10), ("strconv.ErrRange", laid_strconv_ErrRange), ("strconv.ErrSyntax", laid_strconv_ErrSyntax), ("pounce/entity.names", laid_pounce_entity_names)], narrowed := true }
def EntityPlainUptoSaid : Prop := entityPlainUptoRow.holds Tryd.pinned (OpenSpec.upto entityPlainSpec)

/-- 'pouncelaw13.EntityNames', WHERE WHAT IT READS IS OF BULK AT MOST 1048576: true; the input reads as it did. -/
def entityNamesUptoRow : OpenClaim := { program := "ytgclokmkoningaadoor", sum := "6c72fe88ea37fb634d03b022eb61d0ada28ad2f68d764bb84100ecba6f014324", func := "pounce/pouncelaw13.EntityNames", spec := "entityNames", inPlace := ["internal/bytealg.IndexByteString", "internal/abi.NoEscape", "internal/bytealg.IndexString"], named := ["pounce/entity.names", "internal/bytealg.MaxLen", "strconv.ErrSyntax", "strconv.ErrRange", "internal/strconv.uint64pow10", "math/bits.deBruijn32tab", "math/bits.deBruijn64tab"], apart := false, laid := [("math/bits.deBruijn32tab", laid_math_bits_deBruijn32tab), ("math/bits.deBruijn64tab", laid_math_bits_deBruijn64tab), ("internal/strconv.uint64pow10", laid_internal_strconv_uint64pow10), ("strconv.ErrRange", laid_strconv_ErrRange), ("strconv.ErrSyntax", laid_strconv_ErrSyntax), ("pounce/entity.names", laid_pounce_entity_names)], narrowed := true }
def EntityNamesUptoSaid : Prop := entityNamesUptoRow.holds Tryd.pinned (OpenSpec.upto entityNamesSpec)

/-- 'pouncelaw13.EntityJoins', WHERE WHAT IT READS IS OF BULK AT MOST 1048576: true; the input reads as it did. -/
def entityJoinsUptoRow : OpenClaim := { program := "ytgclokmkoningaadoor", sum := "6c72fe88ea37fb634d03b022eb61d0ada28ad2f68d764bb84100ecba6f014324", func := "pounce/pouncelaw13.EntityJoins", spec := "entityJoins", inPlace := ["internal/bytealg.IndexByteString", "internal/abi.NoEscape", "internal/bytealg.IndexString"], named := ["internal/bytealg.MaxLen", "pounce/entity.names", "strconv.ErrSyntax", "strconv.ErrRange", "internal/strconv.uint64pow10", "math/bits.deBruijn32tab", "math/bits.deBruijn64tab"], apart := false, laid := [("math/bits.deBruijn32tab", laid_math_bits_deBruijn32tab), ("math/bits.deBruijn64tab", laid_math_bits_deBruijn64tab), ("internal/strconv.uint64pow10", laid_internal_strconv_uint64pow10), ("strconv.ErrRange", laid_strconv_ErrRange), ("strconv.ErrSyntax", laid_strconv_ErrSyntax), ("pounce/entity.names", laid_pounce_entity_names)], narrowed := true }
def EntityJoinsUptoSaid : Prop := entityJoinsUptoRow.holds Tryd.pinned (OpenSpec.upto entityJoinsSpec)

end Rows
end Go.Proofs.YtgclokmkoningaaDoor
