/-
  DERIVED. GIVEN WITH THE SEED: THE CARDS: each row of YtljnjjnjdanajaaGreatDoorRows.lean that lists a variable, with what it lists TIED to the program's text (the seventh form; the later family's looks); each row that meets fmt, with fmt's text TOLD by the authors' own Lean function (tested against real Go, not proved from fmt's source: count such statements apart). THE CARD IS WHAT COUNTS. Prove the row's statement (the work); the ties are given (YtljnjjnjdanajaaGreatDoorTie.lean); close each card by the builder's one call (the guide's Derived/Test/ToyasCard.lean, 'card_holds'). Laid BY PROGRAM, IN A SANDBOX (cutbox-door.mjs). By AI agents, Wed Nov 11 2026. No macro, syntax, notation, axiom, sorry.
-/
import Derived.Test.YtljnjjnjdanajaaGreatDoorRows
import GoSem.ClaimSeven
namespace Go.Proofs.YtljnjjnjdanajaaGreatDoor
namespace Rows

/-- THE TIED CARD OF 'pouncetop.TopParts'. -/
def topPartsCard : Claim7 := { stood := { row := topPartsRow, standIns := [], harness := (true, "24a9d629715d1cb8ea8667cf7687c233ce608fb855cace4ec97b21cf4523df9e"), looks := true }, kinds := [], alts := [], laidByText := true, laidKinds := [.data, .data, .data, .data, .sentinel, .sentinel, .widerDeep, .pinned], laidTests := true, laidLooks := .later }
def TopPartsCardSaid : Prop := Claim7.holds Tryz.pinned (.plain (OpenSpec.ofChange topPartsSpec)) topPartsCard

/-- THE TIED CARD OF 'pouncelaw17.BuildInto'. -/
def buildIntoCard : Claim7 := { stood := { row := buildIntoRow, standIns := [], harness := (true, "24a9d629715d1cb8ea8667cf7687c233ce608fb855cace4ec97b21cf4523df9e"), looks := true }, kinds := [], alts := [], laidByText := true, laidKinds := [.data, .data, .data, .data, .sentinel, .sentinel, .widerDeep, .pinned], laidTests := true, laidLooks := .later }
def BuildIntoCardSaid : Prop := Claim7.holds Tryz.pinned (.plain (OpenSpec.ofChange buildIntoSpec)) buildIntoCard

/-- THE TIED CARD OF 'pouncelaw17.BuildPages'. -/
def buildPagesCard : Claim7 := { stood := { row := buildPagesRow, standIns := [], harness := (true, "24a9d629715d1cb8ea8667cf7687c233ce608fb855cace4ec97b21cf4523df9e"), looks := true }, kinds := [], alts := [], laidByText := true, laidKinds := [.data, .data, .data, .data, .sentinel, .sentinel, .widerDeep, .pinned], laidTests := true, laidLooks := .later }
def BuildPagesCardSaid : Prop := Claim7.holds Tryz.pinned (.plain (OpenSpec.ofChange buildPagesSpec)) buildPagesCard

/-- THE TIED CARD OF 'pouncelaw17.BuildPrints'. -/
def buildPrintsCard : Claim7 := { stood := { row := buildPrintsRow, standIns := [], harness := (true, "24a9d629715d1cb8ea8667cf7687c233ce608fb855cace4ec97b21cf4523df9e"), looks := true }, kinds := [], alts := [], laidByText := true, laidKinds := [.data, .data, .data, .data, .sentinel, .sentinel, .widerDeep, .pinned], laidTests := true, laidLooks := .later }
def BuildPrintsCardSaid : Prop := Claim7.holds Tryz.pinned (.plain (OpenSpec.ofChange buildPrintsSpec)) buildPrintsCard

/-- THE TIED CARD OF 'pouncelaw17.BuildVoids'. -/
def buildVoidsCard : Claim7 := { stood := { row := buildVoidsRow, standIns := [], harness := (true, "24a9d629715d1cb8ea8667cf7687c233ce608fb855cace4ec97b21cf4523df9e"), looks := true }, kinds := [], alts := [], laidByText := true, laidKinds := [.data, .data, .data, .data, .sentinel, .sentinel, .widerDeep, .pinned], laidTests := true, laidLooks := .later }
def BuildVoidsCardSaid : Prop := Claim7.holds Tryz.pinned (.plain (OpenSpec.ofChange buildVoidsSpec)) buildVoidsCard

/-- THE TIED CARD OF 'pouncelaw17.BuildRight'. -/
def buildRightCard : Claim7 := { stood := { row := buildRightRow, standIns := [], harness := (true, "24a9d629715d1cb8ea8667cf7687c233ce608fb855cace4ec97b21cf4523df9e"), looks := true }, kinds := [], alts := [], laidByText := true, laidKinds := [.data, .data, .data, .data, .sentinel, .sentinel, .widerDeep, .pinned], laidTests := true, laidLooks := .later }
def BuildRightCardSaid : Prop := Claim7.holds Tryz.pinned (.plain (OpenSpec.ofChange buildRightSpec)) buildRightCard

/-- THE TIED CARD OF 'pouncelaw17.BuildOrder'. -/
def buildOrderCard : Claim7 := { stood := { row := buildOrderRow, standIns := [], harness := (true, "24a9d629715d1cb8ea8667cf7687c233ce608fb855cace4ec97b21cf4523df9e"), looks := true }, kinds := [], alts := [], laidByText := true, laidKinds := [.data, .data, .data, .data, .sentinel, .sentinel, .widerDeep, .pinned], laidTests := true, laidLooks := .later }
def BuildOrderCardSaid : Prop := Claim7.holds Tryz.pinned (.plain (OpenSpec.ofChange buildOrderSpec)) buildOrderCard

/-- THE TIED CARD OF 'pouncelaw17.BuildText'. -/
def buildTextCard : Claim7 := { stood := { row := buildTextRow, standIns := [], harness := (true, "24a9d629715d1cb8ea8667cf7687c233ce608fb855cace4ec97b21cf4523df9e"), looks := true }, kinds := [], alts := [], laidByText := true, laidKinds := [.data, .data, .data, .data, .sentinel, .sentinel, .widerDeep, .pinned], laidTests := true, laidLooks := .later }
def BuildTextCardSaid : Prop := Claim7.holds Tryz.pinned (.plain (OpenSpec.ofChange buildTextSpec)) buildTextCard

/-- THE SECOND FORM's CARD OF 'pouncetop.TopParts'. -/
def topPartsUptoCard : Claim7 := { stood := { row := topPartsUptoRow, standIns := [], harness := (true, "24a9d629715d1cb8ea8667cf7687c233ce608fb855cace4ec97b21cf4523df9e"), looks := true }, kinds := [], alts := [], laidByText := true, laidKinds := [.data, .data, .data, .data, .sentinel, .sentinel, .widerDeep, .pinned], laidTests := true, laidLooks := .later }
def TopPartsUptoCardSaid : Prop := Claim7.holds Tryz.pinned (.plain (OpenSpec.upto topPartsSpec)) topPartsUptoCard

/-- THE SECOND FORM's CARD OF 'pouncelaw17.BuildInto'. -/
def buildIntoUptoCard : Claim7 := { stood := { row := buildIntoUptoRow, standIns := [], harness := (true, "24a9d629715d1cb8ea8667cf7687c233ce608fb855cace4ec97b21cf4523df9e"), looks := true }, kinds := [], alts := [], laidByText := true, laidKinds := [.data, .data, .data, .data, .sentinel, .sentinel, .widerDeep, .pinned], laidTests := true, laidLooks := .later }
def BuildIntoUptoCardSaid : Prop := Claim7.holds Tryz.pinned (.plain (OpenSpec.upto buildIntoSpec)) buildIntoUptoCard

/-- THE SECOND FORM's CARD OF 'pouncelaw17.BuildPages'. -/
def buildPagesUptoCard : Claim7 := { stood := { row := buildPagesUptoRow, standIns := [], harness := (true, "24a9d629715d1cb8ea8667cf7687c233ce608fb855cace4ec97b21cf4523df9e"), looks := true }, kinds := [], alts := [], laidByText := true, laidKinds := [.data, .data, .data, .data, .sentinel, .sentinel, .widerDeep, .pinned], laidTests := true, laidLooks := .later }
def BuildPagesUptoCardSaid : Prop := Claim7.holds Tryz.pinned (.plain (OpenSpec.upto buildPagesSpec)) buildPagesUptoCard

/-- THE SECOND FORM's CARD OF 'pouncelaw17.BuildPrints'. -/
def buildPrintsUptoCard : Claim7 := { stood := { row := buildPrintsUptoRow, standIns := [], harness := (true, "24a9d629715d1cb8ea8667cf7687c233ce608fb855cace4ec97b21cf4523df9e"), looks := true }, kinds := [], alts := [], laidByText := true, laidKinds := [.data, .data, .data, .data, .sentinel, .sentinel, .widerDeep, .pinned], laidTests := true, laidLooks := .later }
def BuildPrintsUptoCardSaid : Prop := Claim7.holds Tryz.pinned (.plain (OpenSpec.upto buildPrintsSpec)) buildPrintsUptoCard

/-- THE SECOND FORM's CARD OF 'pouncelaw17.BuildVoids'. -/
def buildVoidsUptoCard : Claim7 := { stood := { row := buildVoidsUptoRow, standIns := [], harness := (true, "24a9d629715d1cb8ea8667cf7687c233ce608fb855cace4ec97b21cf4523df9e"), looks := true }, kinds := [], alts := [], laidByText := true, laidKinds := [.data, .data, .data, .data, .sentinel, .sentinel, .widerDeep, .pinned], laidTests := true, laidLooks := .later }
def BuildVoidsUptoCardSaid : Prop := Claim7.holds Tryz.pinned (.plain (OpenSpec.upto buildVoidsSpec)) buildVoidsUptoCard

/-- THE SECOND FORM's CARD OF 'pouncelaw17.BuildRight'. -/
def buildRightUptoCard : Claim7 := { stood := { row := buildRightUptoRow, standIns := [], harness := (true, "24a9d629715d1cb8ea8667cf7687c233ce608fb855cace4ec97b21cf4523df9e"), looks := true }, kinds := [], alts := [], laidByText := true, laidKinds := [.data, .data, .data, .data, .sentinel, .sentinel, .widerDeep, .pinned], laidTests := true, laidLooks := .later }
def BuildRightUptoCardSaid : Prop := Claim7.holds Tryz.pinned (.plain (OpenSpec.upto buildRightSpec)) buildRightUptoCard

/-- THE SECOND FORM's CARD OF 'pouncelaw17.BuildOrder'. -/
def buildOrderUptoCard : Claim7 := { stood := { row := buildOrderUptoRow, standIns := [], harness := (true, "24a9d629715d1cb8ea8667cf7687c233ce608fb855cace4ec97b21cf4523df9e"), looks := true }, kinds := [], alts := [], laidByText := true, laidKinds := [.data, .data, .data, .data, .sentinel, .sentinel, .widerDeep, .pinned], laidTests := true, laidLooks := .later }
def BuildOrderUptoCardSaid : Prop := Claim7.holds Tryz.pinned (.plain (OpenSpec.upto buildOrderSpec)) buildOrderUptoCard

/-- THE SECOND FORM's CARD OF 'pouncelaw17.BuildText'. -/
def buildTextUptoCard : Claim7 := { stood := { row := buildTextUptoRow, standIns := [], harness := (true, "24a9d629715d1cb8ea8667cf7687c233ce608fb855cace4ec97b21cf4523df9e"), looks := true }, kinds := [], alts := [], laidByText := true, laidKinds := [.data, .data, .data, .data, .sentinel, .sentinel, .widerDeep, .pinned], laidTests := true, laidLooks := .later }
def BuildTextUptoCardSaid : Prop := Claim7.holds Tryz.pinned (.plain (OpenSpec.upto buildTextSpec)) buildTextUptoCard
end Rows
end Go.Proofs.YtljnjjnjdanajaaGreatDoor
