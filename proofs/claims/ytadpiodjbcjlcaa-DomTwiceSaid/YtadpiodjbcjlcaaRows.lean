/-
  No cell of these rows narrows 'for every input' (looked for: loops, veiled, ifaces, maps, wideKeys, modest, calm, conditions, laid).
  DERIVED. THE GIVEN ROWS OF THIS SEAT. 8 by the template 'for every input the law returns true; each argument reads behind the call as it read before'; 0 by the template 'total and deterministic' (their statements: YtadpiodjbcjlcaaTotals.lean).
  GIVEN WITH THE SEED: the statements are not yours to turn. If you find one false, say at which input.
  Laid BY PROGRAM, IN A SANDBOX (cutbox-rows.mjs): the forced cells as the released guide's own fill.sh prints them over the translation f9620ac5f1bbb6c6… (all of the seat's roots in one cut). By AI agents, Wed Nov 11 2026. No macro, syntax, notation, axiom, sorry.
-/
import Derived.Test.YtadpiodjbcjlcaaChecked
import GoSem.Claim
import GoSem.ClaimJoined
import GoSem.ClaimMapViews
import Derived.JoinedTies
import Derived.KernelRfl
namespace Go.Proofs.Ytadpiodjbcjlcaa
/- THE CELL 'sum', in the pinned program and in every row, IS THE sha256 OF THE DUMP (.gsa) THAT YtadpiodjbcjlcaaProg.lean LOADS. Nothing in Lean hashes anything: it is a label: what it is worth is what the hold of that sum in a sandbox is worth. -/
noncomputable def Try.pinned : Pinned := { name := "ytadpiodjbcjlcaa", sum := "f9620ac5f1bbb6c644c60507e3c23a03ab26a8496cbb11d51daf49814ba1a103", checked := Try.checked }
namespace Rows
def none {H : Type} : Left H := { results := [], args := [] }

/-- 'pouncelaw16.DomChecks': WHATEVER THE INPUT: true; the input reads as it did. -/
def domChecksSpec : ChangeSpec := { name := "domChecks", fn := fun _ => fun
  | [d1, d2, d3] => { results := [.lit (.bool true)], args := [d1, d2, d3] }
  | _ => none }
def domChecksRow : OpenClaim := { program := "ytadpiodjbcjlcaa", sum := "f9620ac5f1bbb6c644c60507e3c23a03ab26a8496cbb11d51daf49814ba1a103", func := "pounce/pouncelaw16.DomChecks", spec := "domChecks", inPlace := ["internal/abi.NoEscape"], unfollowed := true, recurses := true, apart := false }
def DomChecksSaid : Prop := domChecksRow.holds Try.pinned (OpenSpec.ofChange domChecksSpec)

/-- ITS FALSE NEIGHBOUR: 'it returns false'. Refute it at one input. -/
def domChecksWrong : ChangeSpec := { name := "domChecks", fn := fun _ => fun
  | [d1, d2, d3] => { results := [.lit (.bool false)], args := [d1, d2, d3] }
  | _ => none }
def DomChecksWrongFalsely : Prop := domChecksRow.holds Try.pinned (OpenSpec.ofChange domChecksWrong)

/-- 'pouncelaw16.DomMakes': WHATEVER THE INPUT: true; the input reads as it did. -/
def domMakesSpec : ChangeSpec := { name := "domMakes", fn := fun _ => fun
  | [d1, d2] => { results := [.lit (.bool true)], args := [d1, d2] }
  | _ => none }
def domMakesRow : OpenClaim := { program := "ytadpiodjbcjlcaa", sum := "f9620ac5f1bbb6c644c60507e3c23a03ab26a8496cbb11d51daf49814ba1a103", func := "pounce/pouncelaw16.DomMakes", spec := "domMakes", inPlace := ["internal/abi.NoEscape"], unfollowed := true, recurses := true, apart := false }
def DomMakesSaid : Prop := domMakesRow.holds Try.pinned (OpenSpec.ofChange domMakesSpec)

/-- ITS FALSE NEIGHBOUR: 'it returns false'. Refute it at one input. -/
def domMakesWrong : ChangeSpec := { name := "domMakes", fn := fun _ => fun
  | [d1, d2] => { results := [.lit (.bool false)], args := [d1, d2] }
  | _ => none }
def DomMakesWrongFalsely : Prop := domMakesRow.holds Try.pinned (OpenSpec.ofChange domMakesWrong)

/-- 'pouncelaw16.DomMoves': WHATEVER THE INPUT: true; the input reads as it did. -/
def domMovesSpec : ChangeSpec := { name := "domMoves", fn := fun _ => fun
  | [d1, d2, d3] => { results := [.lit (.bool true)], args := [d1, d2, d3] }
  | _ => none }
def domMovesRow : OpenClaim := { program := "ytadpiodjbcjlcaa", sum := "f9620ac5f1bbb6c644c60507e3c23a03ab26a8496cbb11d51daf49814ba1a103", func := "pounce/pouncelaw16.DomMoves", spec := "domMoves", inPlace := ["internal/abi.NoEscape"], unfollowed := true, recurses := true, apart := false }
def DomMovesSaid : Prop := domMovesRow.holds Try.pinned (OpenSpec.ofChange domMovesSpec)

/-- ITS FALSE NEIGHBOUR: 'it returns false'. Refute it at one input. -/
def domMovesWrong : ChangeSpec := { name := "domMoves", fn := fun _ => fun
  | [d1, d2, d3] => { results := [.lit (.bool false)], args := [d1, d2, d3] }
  | _ => none }
def DomMovesWrongFalsely : Prop := domMovesRow.holds Try.pinned (OpenSpec.ofChange domMovesWrong)

/-- 'pouncelaw16.DomSets': WHATEVER THE INPUT: true; the input reads as it did. -/
def domSetsSpec : ChangeSpec := { name := "domSets", fn := fun _ => fun
  | [d1, d2, d3, d4] => { results := [.lit (.bool true)], args := [d1, d2, d3, d4] }
  | _ => none }
def domSetsRow : OpenClaim := { program := "ytadpiodjbcjlcaa", sum := "f9620ac5f1bbb6c644c60507e3c23a03ab26a8496cbb11d51daf49814ba1a103", func := "pounce/pouncelaw16.DomSets", spec := "domSets", inPlace := ["internal/abi.NoEscape"], unfollowed := true, recurses := true, apart := false }
def DomSetsSaid : Prop := domSetsRow.holds Try.pinned (OpenSpec.ofChange domSetsSpec)

/-- ITS FALSE NEIGHBOUR: 'it returns false'. Refute it at one input. -/
def domSetsWrong : ChangeSpec := { name := "domSets", fn := fun _ => fun
  | [d1, d2, d3, d4] => { results := [.lit (.bool false)], args := [d1, d2, d3, d4] }
  | _ => none }
def DomSetsWrongFalsely : Prop := domSetsRow.holds Try.pinned (OpenSpec.ofChange domSetsWrong)

/-- 'pouncelaw16.DomRight': WHATEVER THE INPUT: true; the input reads as it did. -/
def domRightSpec : ChangeSpec := { name := "domRight", fn := fun _ => fun
  | [d1, d2, d3, d4, d5, d6] => { results := [.lit (.bool true)], args := [d1, d2, d3, d4, d5, d6] }
  | _ => none }
def domRightRow : OpenClaim := { program := "ytadpiodjbcjlcaa", sum := "f9620ac5f1bbb6c644c60507e3c23a03ab26a8496cbb11d51daf49814ba1a103", func := "pounce/pouncelaw16.DomRight", spec := "domRight", inPlace := ["internal/abi.NoEscape"], unfollowed := true, recurses := true, apart := false }
def DomRightSaid : Prop := domRightRow.holds Try.pinned (OpenSpec.ofChange domRightSpec)

/-- ITS FALSE NEIGHBOUR: 'it returns false'. Refute it at one input. -/
def domRightWrong : ChangeSpec := { name := "domRight", fn := fun _ => fun
  | [d1, d2, d3, d4, d5, d6] => { results := [.lit (.bool false)], args := [d1, d2, d3, d4, d5, d6] }
  | _ => none }
def DomRightWrongFalsely : Prop := domRightRow.holds Try.pinned (OpenSpec.ofChange domRightWrong)

/-- 'pouncelaw16.DomPlaces': WHATEVER THE INPUT: true; the input reads as it did. -/
def domPlacesSpec : ChangeSpec := { name := "domPlaces", fn := fun _ => fun
  | [d1, d2, d3] => { results := [.lit (.bool true)], args := [d1, d2, d3] }
  | _ => none }
def domPlacesRow : OpenClaim := { program := "ytadpiodjbcjlcaa", sum := "f9620ac5f1bbb6c644c60507e3c23a03ab26a8496cbb11d51daf49814ba1a103", func := "pounce/pouncelaw16.DomPlaces", spec := "domPlaces", inPlace := ["internal/abi.NoEscape"], unfollowed := true, recurses := true, apart := false }
def DomPlacesSaid : Prop := domPlacesRow.holds Try.pinned (OpenSpec.ofChange domPlacesSpec)

/-- ITS FALSE NEIGHBOUR: 'it returns false'. Refute it at one input. -/
def domPlacesWrong : ChangeSpec := { name := "domPlaces", fn := fun _ => fun
  | [d1, d2, d3] => { results := [.lit (.bool false)], args := [d1, d2, d3] }
  | _ => none }
def DomPlacesWrongFalsely : Prop := domPlacesRow.holds Try.pinned (OpenSpec.ofChange domPlacesWrong)

/-- 'pouncelaw16.DomAttrs': WHATEVER THE INPUT: true; the input reads as it did. -/
def domAttrsSpec : ChangeSpec := { name := "domAttrs", fn := fun _ => fun
  | [d1, d2, d3, d4, d5, d6] => { results := [.lit (.bool true)], args := [d1, d2, d3, d4, d5, d6] }
  | _ => none }
def domAttrsRow : OpenClaim := { program := "ytadpiodjbcjlcaa", sum := "f9620ac5f1bbb6c644c60507e3c23a03ab26a8496cbb11d51daf49814ba1a103", func := "pounce/pouncelaw16.DomAttrs", spec := "domAttrs", inPlace := ["internal/abi.NoEscape"], unfollowed := true, recurses := true, apart := false }
def DomAttrsSaid : Prop := domAttrsRow.holds Try.pinned (OpenSpec.ofChange domAttrsSpec)

/-- ITS FALSE NEIGHBOUR: 'it returns false'. Refute it at one input. -/
def domAttrsWrong : ChangeSpec := { name := "domAttrs", fn := fun _ => fun
  | [d1, d2, d3, d4, d5, d6] => { results := [.lit (.bool false)], args := [d1, d2, d3, d4, d5, d6] }
  | _ => none }
def DomAttrsWrongFalsely : Prop := domAttrsRow.holds Try.pinned (OpenSpec.ofChange domAttrsWrong)

/-- 'pouncelaw16.DomTwice': WHATEVER THE INPUT: true; the input reads as it did. -/
def domTwiceSpec : ChangeSpec := { name := "domTwice", fn := fun _ => fun
  | [d1, d2, d3] => { results := [.lit (.bool true)], args := [d1, d2, d3] }
  | _ => none }
def domTwiceRow : OpenClaim := { program := "ytadpiodjbcjlcaa", sum := "f9620ac5f1bbb6c644c60507e3c23a03ab26a8496cbb11d51daf49814ba1a103", func := "pounce/pouncelaw16.DomTwice", spec := "domTwice", inPlace := ["internal/abi.NoEscape"], unfollowed := true, recurses := true, apart := false }
def DomTwiceSaid : Prop := domTwiceRow.holds Try.pinned (OpenSpec.ofChange domTwiceSpec)

/-- ITS FALSE NEIGHBOUR: 'it returns false'. Refute it at one input. -/
def domTwiceWrong : ChangeSpec := { name := "domTwice", fn := fun _ => fun
  | [d1, d2, d3] => { results := [.lit (.bool false)], args := [d1, d2, d3] }
  | _ => none }
def DomTwiceWrongFalsely : Prop := domTwiceRow.holds Try.pinned (OpenSpec.ofChange domTwiceWrong)

/- THE SECOND FORM. 'bulk': how many values and letters a reading holds, each counted each time it is reached (what is shared counts as often as it is met; a slice's spare places count too). A statement '..UptoSaid' is the law's where the arguments, and the package variables that the reading takes, are together of bulk at most 1048576: NARROWER than '..Said'. Prove '..Said' where nothing that the law and all that it calls make is longer than what came in: it says more and counts as full. Else prove '..UptoSaid'. A law counts once. -/
mutual
def uptoBulk {H : Type} : DataW H → Nat
  | .lit (.string bytes) => bytes.length + 1
  | .lit _ => 1
  | .nil => 1
  | .ptr d => uptoBulk d + 1
  | .slice elems spare => uptoBulkAll elems + uptoBulkAll spare + 1
  | .agg parts => uptoBulkAll parts + 1
  | .iface _ d => uptoBulk d + 1
  | .map entries => uptoBulkEntries entries + 1
  | .held _ => 1
def uptoBulkAll {H : Type} : List (DataW H) → Nat
  | [] => 0
  | d :: r => uptoBulk d + uptoBulkAll r
def uptoBulkEntries {H : Type} : List (Lit × DataW H) → Nat
  | [] => 0
  | x :: r => uptoBulkEntry x + uptoBulkEntries r
def uptoBulkEntry {H : Type} : Lit × DataW H → Nat
  | (.string bytes, d) => bytes.length + uptoBulk d + 1
  | (_, d) => uptoBulk d + 1
 end
def uptoSmall : (H : Type) → List (DataW H) → Bool := fun _ ds => decide (uptoBulkAll ds ≤ 1048576)
def OpenSpec.upto (s : _root_.Go.ChangeSpec) : _root_.Go.OpenSpec := { _root_.Go.OpenSpec.ofChange s with cond := some uptoSmall }

/-- 'pouncelaw16.DomChecks', WHERE WHAT IT READS IS OF BULK AT MOST 1048576: true; the input reads as it did. -/
def domChecksUptoRow : OpenClaim := { program := "ytadpiodjbcjlcaa", sum := "f9620ac5f1bbb6c644c60507e3c23a03ab26a8496cbb11d51daf49814ba1a103", func := "pounce/pouncelaw16.DomChecks", spec := "domChecks", inPlace := ["internal/abi.NoEscape"], unfollowed := true, recurses := true, apart := false, narrowed := true }
def DomChecksUptoSaid : Prop := domChecksUptoRow.holds Try.pinned (OpenSpec.upto domChecksSpec)

/-- 'pouncelaw16.DomMakes', WHERE WHAT IT READS IS OF BULK AT MOST 1048576: true; the input reads as it did. -/
def domMakesUptoRow : OpenClaim := { program := "ytadpiodjbcjlcaa", sum := "f9620ac5f1bbb6c644c60507e3c23a03ab26a8496cbb11d51daf49814ba1a103", func := "pounce/pouncelaw16.DomMakes", spec := "domMakes", inPlace := ["internal/abi.NoEscape"], unfollowed := true, recurses := true, apart := false, narrowed := true }
def DomMakesUptoSaid : Prop := domMakesUptoRow.holds Try.pinned (OpenSpec.upto domMakesSpec)

/-- 'pouncelaw16.DomMoves', WHERE WHAT IT READS IS OF BULK AT MOST 1048576: true; the input reads as it did. -/
def domMovesUptoRow : OpenClaim := { program := "ytadpiodjbcjlcaa", sum := "f9620ac5f1bbb6c644c60507e3c23a03ab26a8496cbb11d51daf49814ba1a103", func := "pounce/pouncelaw16.DomMoves", spec := "domMoves", inPlace := ["internal/abi.NoEscape"], unfollowed := true, recurses := true, apart := false, narrowed := true }
def DomMovesUptoSaid : Prop := domMovesUptoRow.holds Try.pinned (OpenSpec.upto domMovesSpec)

/-- 'pouncelaw16.DomSets', WHERE WHAT IT READS IS OF BULK AT MOST 1048576: true; the input reads as it did. -/
def domSetsUptoRow : OpenClaim := { program := "ytadpiodjbcjlcaa", sum := "f9620ac5f1bbb6c644c60507e3c23a03ab26a8496cbb11d51daf49814ba1a103", func := "pounce/pouncelaw16.DomSets", spec := "domSets", inPlace := ["internal/abi.NoEscape"], unfollowed := true, recurses := true, apart := false, narrowed := true }
def DomSetsUptoSaid : Prop := domSetsUptoRow.holds Try.pinned (OpenSpec.upto domSetsSpec)

/-- 'pouncelaw16.DomRight', WHERE WHAT IT READS IS OF BULK AT MOST 1048576: true; the input reads as it did. -/
def domRightUptoRow : OpenClaim := { program := "ytadpiodjbcjlcaa", sum := "f9620ac5f1bbb6c644c60507e3c23a03ab26a8496cbb11d51daf49814ba1a103", func := "pounce/pouncelaw16.DomRight", spec := "domRight", inPlace := ["internal/abi.NoEscape"], unfollowed := true, recurses := true, apart := false, narrowed := true }
def DomRightUptoSaid : Prop := domRightUptoRow.holds Try.pinned (OpenSpec.upto domRightSpec)

/-- 'pouncelaw16.DomPlaces', WHERE WHAT IT READS IS OF BULK AT MOST 1048576: true; the input reads as it did. -/
def domPlacesUptoRow : OpenClaim := { program := "ytadpiodjbcjlcaa", sum := "f9620ac5f1bbb6c644c60507e3c23a03ab26a8496cbb11d51daf49814ba1a103", func := "pounce/pouncelaw16.DomPlaces", spec := "domPlaces", inPlace := ["internal/abi.NoEscape"], unfollowed := true, recurses := true, apart := false, narrowed := true }
def DomPlacesUptoSaid : Prop := domPlacesUptoRow.holds Try.pinned (OpenSpec.upto domPlacesSpec)

/-- 'pouncelaw16.DomAttrs', WHERE WHAT IT READS IS OF BULK AT MOST 1048576: true; the input reads as it did. -/
def domAttrsUptoRow : OpenClaim := { program := "ytadpiodjbcjlcaa", sum := "f9620ac5f1bbb6c644c60507e3c23a03ab26a8496cbb11d51daf49814ba1a103", func := "pounce/pouncelaw16.DomAttrs", spec := "domAttrs", inPlace := ["internal/abi.NoEscape"], unfollowed := true, recurses := true, apart := false, narrowed := true }
def DomAttrsUptoSaid : Prop := domAttrsUptoRow.holds Try.pinned (OpenSpec.upto domAttrsSpec)

/-- 'pouncelaw16.DomTwice', WHERE WHAT IT READS IS OF BULK AT MOST 1048576: true; the input reads as it did. -/
def domTwiceUptoRow : OpenClaim := { program := "ytadpiodjbcjlcaa", sum := "f9620ac5f1bbb6c644c60507e3c23a03ab26a8496cbb11d51daf49814ba1a103", func := "pounce/pouncelaw16.DomTwice", spec := "domTwice", inPlace := ["internal/abi.NoEscape"], unfollowed := true, recurses := true, apart := false, narrowed := true }
def DomTwiceUptoSaid : Prop := domTwiceUptoRow.holds Try.pinned (OpenSpec.upto domTwiceSpec)

end Rows
end Go.Proofs.Ytadpiodjbcjlcaa
