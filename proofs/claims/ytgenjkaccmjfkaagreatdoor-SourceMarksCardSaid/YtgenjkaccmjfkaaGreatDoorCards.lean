/-
  DERIVED. GIVEN WITH THE SEED: THE CARDS: each row of YtgenjkaccmjfkaaGreatDoorRows.lean that lists a variable, with what it lists TIED to the program's text (the seventh form; the later family's looks); each row that meets fmt, with fmt's text TOLD by the authors' own Lean function (tested against real Go, not proved from fmt's source: count such statements apart). THE CARD IS WHAT COUNTS. Prove the row's statement (the work); the ties are given (YtgenjkaccmjfkaaGreatDoorTie.lean); close each card by the builder's one call (the guide's Derived/Test/ToyasCard.lean, 'card_holds'). Laid BY PROGRAM, IN A SANDBOX (cutbox-door.mjs). By AI agents, Wed Nov 11 2026. No macro, syntax, notation, axiom, sorry.
-/
import Derived.Test.YtgenjkaccmjfkaaGreatDoorRows
import GoSem.ClaimSeven
namespace Go.Proofs.YtgenjkaccmjfkaaGreatDoor
namespace Rows

/-- THE TIED CARD OF 'pouncetop.TopMarks'. -/
def topMarksCard : Claim7 := { stood := { row := topMarksRow, standIns := [], harness := (true, "c5e3557da60d015c43f99e185c2ab33b9356d44eb1cdfbd539c1f170a963c01e"), looks := true }, kinds := [], alts := [], laidByText := true, laidKinds := [.data, .data, .data, .data, .data, .sentinel, .sentinel, .data, .pinned], laidTests := true, laidLooks := .later }
def TopMarksCardSaid : Prop := Claim7.holds Tryz.pinned (.plain (OpenSpec.ofChange topMarksSpec)) topMarksCard

/-- THE TIED CARD OF 'pouncelaw09.SourcePrints'. -/
def sourcePrintsCard : Claim7 := { stood := { row := sourcePrintsRow, standIns := [], harness := (true, "c5e3557da60d015c43f99e185c2ab33b9356d44eb1cdfbd539c1f170a963c01e"), looks := true }, kinds := [], alts := [], laidByText := true, laidKinds := [.data, .data, .data, .data, .sentinel, .sentinel, .data, .pinned], laidTests := true, laidLooks := .later }
def SourcePrintsCardSaid : Prop := Claim7.holds Tryz.pinned (.plain (OpenSpec.ofChange sourcePrintsSpec)) sourcePrintsCard

/-- THE TIED CARD OF 'pouncelaw09.SourceLetters'. -/
def sourceLettersCard : Claim7 := { stood := { row := sourceLettersRow, standIns := [], harness := (true, "c5e3557da60d015c43f99e185c2ab33b9356d44eb1cdfbd539c1f170a963c01e"), looks := true }, kinds := [], alts := [], laidByText := true, laidKinds := [.data, .data, .data, .data, .sentinel, .sentinel, .data, .pinned], laidTests := true, laidLooks := .later }
def SourceLettersCardSaid : Prop := Claim7.holds Tryz.pinned (.plain (OpenSpec.ofChange sourceLettersSpec)) sourceLettersCard

/-- THE TIED CARD OF 'pouncelaw09.SourceEach'. -/
def sourceEachCard : Claim7 := { stood := { row := sourceEachRow, standIns := [], harness := (true, "c5e3557da60d015c43f99e185c2ab33b9356d44eb1cdfbd539c1f170a963c01e"), looks := true }, kinds := [], alts := [], laidByText := true, laidKinds := [.data, .data, .data, .data, .sentinel, .sentinel, .data, .pinned], laidTests := true, laidLooks := .later }
def SourceEachCardSaid : Prop := Claim7.holds Tryz.pinned (.plain (OpenSpec.ofChange sourceEachSpec)) sourceEachCard

/-- THE TIED CARD OF 'pouncelaw09.SourceKept'. -/
def sourceKeptCard : Claim7 := { stood := { row := sourceKeptRow, standIns := [], harness := (true, "c5e3557da60d015c43f99e185c2ab33b9356d44eb1cdfbd539c1f170a963c01e"), looks := true }, kinds := [], alts := [], laidByText := true, laidKinds := [.data, .data, .data, .data, .sentinel, .sentinel, .data, .pinned], laidTests := true, laidLooks := .later }
def SourceKeptCardSaid : Prop := Claim7.holds Tryz.pinned (.plain (OpenSpec.ofChange sourceKeptSpec)) sourceKeptCard

/-- THE TIED CARD OF 'pouncelaw09.SourceMarks'. -/
def sourceMarksCard : Claim7 := { stood := { row := sourceMarksRow, standIns := [], harness := (true, "c5e3557da60d015c43f99e185c2ab33b9356d44eb1cdfbd539c1f170a963c01e"), looks := true }, kinds := [], alts := [], laidByText := true, laidKinds := [.data, .data, .data, .data, .data, .sentinel, .sentinel, .data, .pinned], laidTests := true, laidLooks := .later }
def SourceMarksCardSaid : Prop := Claim7.holds Tryz.pinned (.plain (OpenSpec.ofChange sourceMarksSpec)) sourceMarksCard

/-- THE TIED CARD OF 'pouncelaw12.ChainNames'. -/
def chainNamesCard : Claim7 := { stood := { row := chainNamesRow, standIns := [], harness := (true, "c5e3557da60d015c43f99e185c2ab33b9356d44eb1cdfbd539c1f170a963c01e"), looks := true }, kinds := [], alts := [], laidByText := true, laidKinds := [.data, .data, .data, .data, .data, .sentinel, .sentinel, .data, .pinned], laidTests := true, laidLooks := .later }
def ChainNamesCardSaid : Prop := Claim7.holds Tryz.pinned (.plain (OpenSpec.ofChange chainNamesSpec)) chainNamesCard

/-- THE TIED CARD OF 'pouncelaw12.ChainOne'. -/
def chainOneCard : Claim7 := { stood := { row := chainOneRow, standIns := [], harness := (true, "c5e3557da60d015c43f99e185c2ab33b9356d44eb1cdfbd539c1f170a963c01e"), looks := true }, kinds := [], alts := [], laidByText := true, laidKinds := [.data, .data, .data, .data, .data, .sentinel, .sentinel, .data, .pinned], laidTests := true, laidLooks := .later }
def ChainOneCardSaid : Prop := Claim7.holds Tryz.pinned (.plain (OpenSpec.ofChange chainOneSpec)) chainOneCard

/-- THE TIED CARD OF 'pouncelaw12.ChainAll'. -/
def chainAllCard : Claim7 := { stood := { row := chainAllRow, standIns := [], harness := (true, "c5e3557da60d015c43f99e185c2ab33b9356d44eb1cdfbd539c1f170a963c01e"), looks := true }, kinds := [], alts := [], laidByText := true, laidKinds := [.data, .data, .data, .data, .data, .sentinel, .sentinel, .data, .pinned], laidTests := true, laidLooks := .later }
def ChainAllCardSaid : Prop := Claim7.holds Tryz.pinned (.plain (OpenSpec.ofChange chainAllSpec)) chainAllCard

/-- THE TIED CARD OF 'pouncelaw12.ChainMore'. -/
def chainMoreCard : Claim7 := { stood := { row := chainMoreRow, standIns := [], harness := (true, "c5e3557da60d015c43f99e185c2ab33b9356d44eb1cdfbd539c1f170a963c01e"), looks := true }, kinds := [], alts := [], laidByText := true, laidKinds := [.data, .data, .data, .data, .data, .sentinel, .sentinel, .data, .pinned], laidTests := true, laidLooks := .later }
def ChainMoreCardSaid : Prop := Claim7.holds Tryz.pinned (.plain (OpenSpec.ofChange chainMoreSpec)) chainMoreCard

/-- THE TIED CARD OF 'pouncelaw12.ChainFree'. -/
def chainFreeCard : Claim7 := { stood := { row := chainFreeRow, standIns := [], harness := (true, "c5e3557da60d015c43f99e185c2ab33b9356d44eb1cdfbd539c1f170a963c01e"), looks := true }, kinds := [], alts := [], laidByText := true, laidKinds := [.data, .data, .data, .data, .data, .sentinel, .sentinel, .data, .pinned], laidTests := true, laidLooks := .later }
def ChainFreeCardSaid : Prop := Claim7.holds Tryz.pinned (.plain (OpenSpec.ofChange chainFreeSpec)) chainFreeCard

/-- THE TIED CARD OF 'pouncelaw12.ChainReports'. -/
def chainReportsCard : Claim7 := { stood := { row := chainReportsRow, standIns := [], harness := (true, "c5e3557da60d015c43f99e185c2ab33b9356d44eb1cdfbd539c1f170a963c01e"), looks := true }, kinds := [], alts := [], laidByText := true, laidKinds := [.data, .data, .data, .data, .data, .sentinel, .sentinel, .data, .pinned], laidTests := true, laidLooks := .later }
def ChainReportsCardSaid : Prop := Claim7.holds Tryz.pinned (.plain (OpenSpec.ofChange chainReportsSpec)) chainReportsCard

/-- THE SECOND FORM's CARD OF 'pouncetop.TopMarks'. -/
def topMarksUptoCard : Claim7 := { stood := { row := topMarksUptoRow, standIns := [], harness := (true, "c5e3557da60d015c43f99e185c2ab33b9356d44eb1cdfbd539c1f170a963c01e"), looks := true }, kinds := [], alts := [], laidByText := true, laidKinds := [.data, .data, .data, .data, .data, .sentinel, .sentinel, .data, .pinned], laidTests := true, laidLooks := .later }
def TopMarksUptoCardSaid : Prop := Claim7.holds Tryz.pinned (.plain (OpenSpec.upto topMarksSpec)) topMarksUptoCard

/-- THE SECOND FORM's CARD OF 'pouncelaw09.SourcePrints'. -/
def sourcePrintsUptoCard : Claim7 := { stood := { row := sourcePrintsUptoRow, standIns := [], harness := (true, "c5e3557da60d015c43f99e185c2ab33b9356d44eb1cdfbd539c1f170a963c01e"), looks := true }, kinds := [], alts := [], laidByText := true, laidKinds := [.data, .data, .data, .data, .sentinel, .sentinel, .data, .pinned], laidTests := true, laidLooks := .later }
def SourcePrintsUptoCardSaid : Prop := Claim7.holds Tryz.pinned (.plain (OpenSpec.upto sourcePrintsSpec)) sourcePrintsUptoCard

/-- THE SECOND FORM's CARD OF 'pouncelaw09.SourceLetters'. -/
def sourceLettersUptoCard : Claim7 := { stood := { row := sourceLettersUptoRow, standIns := [], harness := (true, "c5e3557da60d015c43f99e185c2ab33b9356d44eb1cdfbd539c1f170a963c01e"), looks := true }, kinds := [], alts := [], laidByText := true, laidKinds := [.data, .data, .data, .data, .sentinel, .sentinel, .data, .pinned], laidTests := true, laidLooks := .later }
def SourceLettersUptoCardSaid : Prop := Claim7.holds Tryz.pinned (.plain (OpenSpec.upto sourceLettersSpec)) sourceLettersUptoCard

/-- THE SECOND FORM's CARD OF 'pouncelaw09.SourceEach'. -/
def sourceEachUptoCard : Claim7 := { stood := { row := sourceEachUptoRow, standIns := [], harness := (true, "c5e3557da60d015c43f99e185c2ab33b9356d44eb1cdfbd539c1f170a963c01e"), looks := true }, kinds := [], alts := [], laidByText := true, laidKinds := [.data, .data, .data, .data, .sentinel, .sentinel, .data, .pinned], laidTests := true, laidLooks := .later }
def SourceEachUptoCardSaid : Prop := Claim7.holds Tryz.pinned (.plain (OpenSpec.upto sourceEachSpec)) sourceEachUptoCard

/-- THE SECOND FORM's CARD OF 'pouncelaw09.SourceKept'. -/
def sourceKeptUptoCard : Claim7 := { stood := { row := sourceKeptUptoRow, standIns := [], harness := (true, "c5e3557da60d015c43f99e185c2ab33b9356d44eb1cdfbd539c1f170a963c01e"), looks := true }, kinds := [], alts := [], laidByText := true, laidKinds := [.data, .data, .data, .data, .sentinel, .sentinel, .data, .pinned], laidTests := true, laidLooks := .later }
def SourceKeptUptoCardSaid : Prop := Claim7.holds Tryz.pinned (.plain (OpenSpec.upto sourceKeptSpec)) sourceKeptUptoCard

/-- THE SECOND FORM's CARD OF 'pouncelaw09.SourceMarks'. -/
def sourceMarksUptoCard : Claim7 := { stood := { row := sourceMarksUptoRow, standIns := [], harness := (true, "c5e3557da60d015c43f99e185c2ab33b9356d44eb1cdfbd539c1f170a963c01e"), looks := true }, kinds := [], alts := [], laidByText := true, laidKinds := [.data, .data, .data, .data, .data, .sentinel, .sentinel, .data, .pinned], laidTests := true, laidLooks := .later }
def SourceMarksUptoCardSaid : Prop := Claim7.holds Tryz.pinned (.plain (OpenSpec.upto sourceMarksSpec)) sourceMarksUptoCard

/-- THE SECOND FORM's CARD OF 'pouncelaw12.ChainNames'. -/
def chainNamesUptoCard : Claim7 := { stood := { row := chainNamesUptoRow, standIns := [], harness := (true, "c5e3557da60d015c43f99e185c2ab33b9356d44eb1cdfbd539c1f170a963c01e"), looks := true }, kinds := [], alts := [], laidByText := true, laidKinds := [.data, .data, .data, .data, .data, .sentinel, .sentinel, .data, .pinned], laidTests := true, laidLooks := .later }
def ChainNamesUptoCardSaid : Prop := Claim7.holds Tryz.pinned (.plain (OpenSpec.upto chainNamesSpec)) chainNamesUptoCard

/-- THE SECOND FORM's CARD OF 'pouncelaw12.ChainOne'. -/
def chainOneUptoCard : Claim7 := { stood := { row := chainOneUptoRow, standIns := [], harness := (true, "c5e3557da60d015c43f99e185c2ab33b9356d44eb1cdfbd539c1f170a963c01e"), looks := true }, kinds := [], alts := [], laidByText := true, laidKinds := [.data, .data, .data, .data, .data, .sentinel, .sentinel, .data, .pinned], laidTests := true, laidLooks := .later }
def ChainOneUptoCardSaid : Prop := Claim7.holds Tryz.pinned (.plain (OpenSpec.upto chainOneSpec)) chainOneUptoCard

/-- THE SECOND FORM's CARD OF 'pouncelaw12.ChainAll'. -/
def chainAllUptoCard : Claim7 := { stood := { row := chainAllUptoRow, standIns := [], harness := (true, "c5e3557da60d015c43f99e185c2ab33b9356d44eb1cdfbd539c1f170a963c01e"), looks := true }, kinds := [], alts := [], laidByText := true, laidKinds := [.data, .data, .data, .data, .data, .sentinel, .sentinel, .data, .pinned], laidTests := true, laidLooks := .later }
def ChainAllUptoCardSaid : Prop := Claim7.holds Tryz.pinned (.plain (OpenSpec.upto chainAllSpec)) chainAllUptoCard

/-- THE SECOND FORM's CARD OF 'pouncelaw12.ChainMore'. -/
def chainMoreUptoCard : Claim7 := { stood := { row := chainMoreUptoRow, standIns := [], harness := (true, "c5e3557da60d015c43f99e185c2ab33b9356d44eb1cdfbd539c1f170a963c01e"), looks := true }, kinds := [], alts := [], laidByText := true, laidKinds := [.data, .data, .data, .data, .data, .sentinel, .sentinel, .data, .pinned], laidTests := true, laidLooks := .later }
def ChainMoreUptoCardSaid : Prop := Claim7.holds Tryz.pinned (.plain (OpenSpec.upto chainMoreSpec)) chainMoreUptoCard

/-- THE SECOND FORM's CARD OF 'pouncelaw12.ChainFree'. -/
def chainFreeUptoCard : Claim7 := { stood := { row := chainFreeUptoRow, standIns := [], harness := (true, "c5e3557da60d015c43f99e185c2ab33b9356d44eb1cdfbd539c1f170a963c01e"), looks := true }, kinds := [], alts := [], laidByText := true, laidKinds := [.data, .data, .data, .data, .data, .sentinel, .sentinel, .data, .pinned], laidTests := true, laidLooks := .later }
def ChainFreeUptoCardSaid : Prop := Claim7.holds Tryz.pinned (.plain (OpenSpec.upto chainFreeSpec)) chainFreeUptoCard

/-- THE SECOND FORM's CARD OF 'pouncelaw12.ChainReports'. -/
def chainReportsUptoCard : Claim7 := { stood := { row := chainReportsUptoRow, standIns := [], harness := (true, "c5e3557da60d015c43f99e185c2ab33b9356d44eb1cdfbd539c1f170a963c01e"), looks := true }, kinds := [], alts := [], laidByText := true, laidKinds := [.data, .data, .data, .data, .data, .sentinel, .sentinel, .data, .pinned], laidTests := true, laidLooks := .later }
def ChainReportsUptoCardSaid : Prop := Claim7.holds Tryz.pinned (.plain (OpenSpec.upto chainReportsSpec)) chainReportsUptoCard
end Rows
end Go.Proofs.YtgenjkaccmjfkaaGreatDoor
