/-
  DERIVED. GIVEN WITH THE SEED: THE CARDS: each row of YtgjenfhkjjdcoaaGreatDoorRows.lean that lists a variable, with what it lists TIED to the program's text (the seventh form; the later family's looks); each row that meets fmt, with fmt's text TOLD by the authors' own Lean function (tested against real Go, not proved from fmt's source: count such statements apart). THE CARD IS WHAT COUNTS. Prove the row's statement (the work); the ties are given (YtgjenfhkjjdcoaaGreatDoorTie.lean); close each card by the builder's one call (the guide's Derived/Test/ToyasCard.lean, 'card_holds'). Laid BY PROGRAM, IN A SANDBOX (cutbox-door.mjs). By AI agents, Wed Nov 11 2026. No macro, syntax, notation, axiom, sorry.
-/
import Derived.Test.YtgjenfhkjjdcoaaGreatDoorRows
import GoSem.ClaimSeven
namespace Go.Proofs.YtgjenfhkjjdcoaaGreatDoor
namespace Rows

/-- THE TIED CARD OF 'pouncetop.TopMarks'. -/
def topMarksCard : Claim7 := { stood := { row := topMarksRow, standIns := [], harness := (true, "5eb573085eb7ee6d3a1463ea93f3a8c9f1136461d4de591e0bf6124a2f608dc3"), looks := true }, kinds := [], alts := [], laidByText := true, laidKinds := [.data, .data, .data, .data, .data, .sentinel, .sentinel, .data, .pinned], laidTests := true, laidLooks := .later }
def TopMarksCardSaid : Prop := Claim7.holds Tryz.pinned (.plain (OpenSpec.ofChange topMarksSpec)) topMarksCard

/-- THE TIED CARD OF 'pouncelaw12.ChainNames'. -/
def chainNamesCard : Claim7 := { stood := { row := chainNamesRow, standIns := [], harness := (true, "5eb573085eb7ee6d3a1463ea93f3a8c9f1136461d4de591e0bf6124a2f608dc3"), looks := true }, kinds := [], alts := [], laidByText := true, laidKinds := [.data, .data, .data, .data, .data, .sentinel, .sentinel, .data, .pinned], laidTests := true, laidLooks := .later }
def ChainNamesCardSaid : Prop := Claim7.holds Tryz.pinned (.plain (OpenSpec.ofChange chainNamesSpec)) chainNamesCard

/-- THE TIED CARD OF 'pouncelaw12.ChainOne'. -/
def chainOneCard : Claim7 := { stood := { row := chainOneRow, standIns := [], harness := (true, "5eb573085eb7ee6d3a1463ea93f3a8c9f1136461d4de591e0bf6124a2f608dc3"), looks := true }, kinds := [], alts := [], laidByText := true, laidKinds := [.data, .data, .data, .data, .data, .sentinel, .sentinel, .data, .pinned], laidTests := true, laidLooks := .later }
def ChainOneCardSaid : Prop := Claim7.holds Tryz.pinned (.plain (OpenSpec.ofChange chainOneSpec)) chainOneCard

/-- THE TIED CARD OF 'pouncelaw12.ChainAll'. -/
def chainAllCard : Claim7 := { stood := { row := chainAllRow, standIns := [], harness := (true, "5eb573085eb7ee6d3a1463ea93f3a8c9f1136461d4de591e0bf6124a2f608dc3"), looks := true }, kinds := [], alts := [], laidByText := true, laidKinds := [.data, .data, .data, .data, .data, .sentinel, .sentinel, .data, .pinned], laidTests := true, laidLooks := .later }
def ChainAllCardSaid : Prop := Claim7.holds Tryz.pinned (.plain (OpenSpec.ofChange chainAllSpec)) chainAllCard

/-- THE TIED CARD OF 'pouncelaw12.ChainMore'. -/
def chainMoreCard : Claim7 := { stood := { row := chainMoreRow, standIns := [], harness := (true, "5eb573085eb7ee6d3a1463ea93f3a8c9f1136461d4de591e0bf6124a2f608dc3"), looks := true }, kinds := [], alts := [], laidByText := true, laidKinds := [.data, .data, .data, .data, .data, .sentinel, .sentinel, .data, .pinned], laidTests := true, laidLooks := .later }
def ChainMoreCardSaid : Prop := Claim7.holds Tryz.pinned (.plain (OpenSpec.ofChange chainMoreSpec)) chainMoreCard

/-- THE TIED CARD OF 'pouncelaw12.ChainFree'. -/
def chainFreeCard : Claim7 := { stood := { row := chainFreeRow, standIns := [], harness := (true, "5eb573085eb7ee6d3a1463ea93f3a8c9f1136461d4de591e0bf6124a2f608dc3"), looks := true }, kinds := [], alts := [], laidByText := true, laidKinds := [.data, .data, .data, .data, .data, .sentinel, .sentinel, .data, .pinned], laidTests := true, laidLooks := .later }
def ChainFreeCardSaid : Prop := Claim7.holds Tryz.pinned (.plain (OpenSpec.ofChange chainFreeSpec)) chainFreeCard

/-- THE TIED CARD OF 'pouncelaw12.ChainReports'. -/
def chainReportsCard : Claim7 := { stood := { row := chainReportsRow, standIns := [], harness := (true, "5eb573085eb7ee6d3a1463ea93f3a8c9f1136461d4de591e0bf6124a2f608dc3"), looks := true }, kinds := [], alts := [], laidByText := true, laidKinds := [.data, .data, .data, .data, .data, .sentinel, .sentinel, .data, .pinned], laidTests := true, laidLooks := .later }
def ChainReportsCardSaid : Prop := Claim7.holds Tryz.pinned (.plain (OpenSpec.ofChange chainReportsSpec)) chainReportsCard

/-- THE SECOND FORM's CARD OF 'pouncetop.TopMarks'. -/
def topMarksUptoCard : Claim7 := { stood := { row := topMarksUptoRow, standIns := [], harness := (true, "5eb573085eb7ee6d3a1463ea93f3a8c9f1136461d4de591e0bf6124a2f608dc3"), looks := true }, kinds := [], alts := [], laidByText := true, laidKinds := [.data, .data, .data, .data, .data, .sentinel, .sentinel, .data, .pinned], laidTests := true, laidLooks := .later }
def TopMarksUptoCardSaid : Prop := Claim7.holds Tryz.pinned (.plain (OpenSpec.upto topMarksSpec)) topMarksUptoCard

/-- THE SECOND FORM's CARD OF 'pouncelaw12.ChainNames'. -/
def chainNamesUptoCard : Claim7 := { stood := { row := chainNamesUptoRow, standIns := [], harness := (true, "5eb573085eb7ee6d3a1463ea93f3a8c9f1136461d4de591e0bf6124a2f608dc3"), looks := true }, kinds := [], alts := [], laidByText := true, laidKinds := [.data, .data, .data, .data, .data, .sentinel, .sentinel, .data, .pinned], laidTests := true, laidLooks := .later }
def ChainNamesUptoCardSaid : Prop := Claim7.holds Tryz.pinned (.plain (OpenSpec.upto chainNamesSpec)) chainNamesUptoCard

/-- THE SECOND FORM's CARD OF 'pouncelaw12.ChainOne'. -/
def chainOneUptoCard : Claim7 := { stood := { row := chainOneUptoRow, standIns := [], harness := (true, "5eb573085eb7ee6d3a1463ea93f3a8c9f1136461d4de591e0bf6124a2f608dc3"), looks := true }, kinds := [], alts := [], laidByText := true, laidKinds := [.data, .data, .data, .data, .data, .sentinel, .sentinel, .data, .pinned], laidTests := true, laidLooks := .later }
def ChainOneUptoCardSaid : Prop := Claim7.holds Tryz.pinned (.plain (OpenSpec.upto chainOneSpec)) chainOneUptoCard

/-- THE SECOND FORM's CARD OF 'pouncelaw12.ChainAll'. -/
def chainAllUptoCard : Claim7 := { stood := { row := chainAllUptoRow, standIns := [], harness := (true, "5eb573085eb7ee6d3a1463ea93f3a8c9f1136461d4de591e0bf6124a2f608dc3"), looks := true }, kinds := [], alts := [], laidByText := true, laidKinds := [.data, .data, .data, .data, .data, .sentinel, .sentinel, .data, .pinned], laidTests := true, laidLooks := .later }
def ChainAllUptoCardSaid : Prop := Claim7.holds Tryz.pinned (.plain (OpenSpec.upto chainAllSpec)) chainAllUptoCard

/-- THE SECOND FORM's CARD OF 'pouncelaw12.ChainMore'. -/
def chainMoreUptoCard : Claim7 := { stood := { row := chainMoreUptoRow, standIns := [], harness := (true, "5eb573085eb7ee6d3a1463ea93f3a8c9f1136461d4de591e0bf6124a2f608dc3"), looks := true }, kinds := [], alts := [], laidByText := true, laidKinds := [.data, .data, .data, .data, .data, .sentinel, .sentinel, .data, .pinned], laidTests := true, laidLooks := .later }
def ChainMoreUptoCardSaid : Prop := Claim7.holds Tryz.pinned (.plain (OpenSpec.upto chainMoreSpec)) chainMoreUptoCard

/-- THE SECOND FORM's CARD OF 'pouncelaw12.ChainFree'. -/
def chainFreeUptoCard : Claim7 := { stood := { row := chainFreeUptoRow, standIns := [], harness := (true, "5eb573085eb7ee6d3a1463ea93f3a8c9f1136461d4de591e0bf6124a2f608dc3"), looks := true }, kinds := [], alts := [], laidByText := true, laidKinds := [.data, .data, .data, .data, .data, .sentinel, .sentinel, .data, .pinned], laidTests := true, laidLooks := .later }
def ChainFreeUptoCardSaid : Prop := Claim7.holds Tryz.pinned (.plain (OpenSpec.upto chainFreeSpec)) chainFreeUptoCard

/-- THE SECOND FORM's CARD OF 'pouncelaw12.ChainReports'. -/
def chainReportsUptoCard : Claim7 := { stood := { row := chainReportsUptoRow, standIns := [], harness := (true, "5eb573085eb7ee6d3a1463ea93f3a8c9f1136461d4de591e0bf6124a2f608dc3"), looks := true }, kinds := [], alts := [], laidByText := true, laidKinds := [.data, .data, .data, .data, .data, .sentinel, .sentinel, .data, .pinned], laidTests := true, laidLooks := .later }
def ChainReportsUptoCardSaid : Prop := Claim7.holds Tryz.pinned (.plain (OpenSpec.upto chainReportsSpec)) chainReportsUptoCard
end Rows
end Go.Proofs.YtgjenfhkjjdcoaaGreatDoor
