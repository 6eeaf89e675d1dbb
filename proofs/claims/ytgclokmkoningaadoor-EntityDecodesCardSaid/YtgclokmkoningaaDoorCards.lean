/-
  DERIVED. GIVEN WITH THE SEED: THE CARDS: each row of YtgclokmkoningaaDoorRows.lean that lists a variable, with what it lists TIED to the program's text (the seventh form; the later family's looks); each row that meets fmt, with fmt's text TOLD by the authors' own Lean function (tested against real Go, not proved from fmt's source: count such statements apart). THE CARD IS WHAT COUNTS. Prove the row's statement (the work); the ties are given (YtgclokmkoningaaDoorTie.lean); close each card by the builder's one call (the guide's Derived/Test/ToyasCard.lean, 'card_holds'). Laid BY PROGRAM, IN A SANDBOX (cutbox-door.mjs). By AI agents, Wed Nov 11 2026. No macro, syntax, notation, axiom, sorry.
-/
import Derived.Test.YtgclokmkoningaaDoorRows
import GoSem.ClaimSeven
namespace Go.Proofs.YtgclokmkoningaaDoor
namespace Rows

/-- THE TIED CARD OF 'pouncelaw13.EntityDecodes'. -/
def entityDecodesCard : Claim7 := { stood := { row := entityDecodesRow, standIns := [], harness := (true, "9fffd7e5bf7638746a58d540e8c2bd06d762aead8d53117eef8d6c8e60b0f064"), looks := true }, kinds := [], alts := [], laidByText := true, laidKinds := [.data, .data, .data, .sentinel, .sentinel, .widerDeep], laidTests := true, laidLooks := .later }
def EntityDecodesCardSaid : Prop := Claim7.holds Tryd.pinned (.plain (OpenSpec.ofChange entityDecodesSpec)) entityDecodesCard

/-- THE TIED CARD OF 'pouncelaw13.EntityEncodes'. -/
def entityEncodesCard : Claim7 := { stood := { row := entityEncodesRow, standIns := [], harness := (true, "9fffd7e5bf7638746a58d540e8c2bd06d762aead8d53117eef8d6c8e60b0f064"), looks := true }, kinds := [], alts := [], laidByText := true, laidKinds := [.data, .data, .data, .sentinel, .sentinel, .widerDeep], laidTests := true, laidLooks := .later }
def EntityEncodesCardSaid : Prop := Claim7.holds Tryd.pinned (.plain (OpenSpec.ofChange entityEncodesSpec)) entityEncodesCard

/-- THE TIED CARD OF 'pouncelaw13.EntityBack'. -/
def entityBackCard : Claim7 := { stood := { row := entityBackRow, standIns := [], harness := (true, "9fffd7e5bf7638746a58d540e8c2bd06d762aead8d53117eef8d6c8e60b0f064"), looks := true }, kinds := [], alts := [], laidByText := true, laidKinds := [.data, .data, .data, .sentinel, .sentinel, .widerDeep], laidTests := true, laidLooks := .later }
def EntityBackCardSaid : Prop := Claim7.holds Tryd.pinned (.plain (OpenSpec.ofChange entityBackSpec)) entityBackCard

/-- THE TIED CARD OF 'pouncelaw13.EntityPlain'. -/
def entityPlainCard : Claim7 := { stood := { row := entityPlainRow, standIns := [], harness := (true, "9fffd7e5bf7638746a58d540e8c2bd06d762aead8d53117eef8d6c8e60b0f064"), looks := true }, kinds := [], alts := [], laidByText := true, laidKinds := [.data, .data, .data, .sentinel, .sentinel, .widerDeep], laidTests := true, laidLooks := .later }
def EntityPlainCardSaid : Prop := Claim7.holds Tryd.pinned (.plain (OpenSpec.ofChange entityPlainSpec)) entityPlainCard

/-- THE TIED CARD OF 'pouncelaw13.EntityNames'. -/
def entityNamesCard : Claim7 := { stood := { row := entityNamesRow, standIns := [], harness := (true, "9fffd7e5bf7638746a58d540e8c2bd06d762aead8d53117eef8d6c8e60b0f064"), looks := true }, kinds := [], alts := [], laidByText := true, laidKinds := [.data, .data, .data, .sentinel, .sentinel, .widerDeep], laidTests := true, laidLooks := .later }
def EntityNamesCardSaid : Prop := Claim7.holds Tryd.pinned (.plain (OpenSpec.ofChange entityNamesSpec)) entityNamesCard

/-- THE TIED CARD OF 'pouncelaw13.EntityJoins'. -/
def entityJoinsCard : Claim7 := { stood := { row := entityJoinsRow, standIns := [], harness := (true, "9fffd7e5bf7638746a58d540e8c2bd06d762aead8d53117eef8d6c8e60b0f064"), looks := true }, kinds := [], alts := [], laidByText := true, laidKinds := [.data, .data, .data, .sentinel, .sentinel, .widerDeep], laidTests := true, laidLooks := .later }
def EntityJoinsCardSaid : Prop := Claim7.holds Tryd.pinned (.plain (OpenSpec.ofChange entityJoinsSpec)) entityJoinsCard

/-- THE SECOND FORM's CARD OF 'pouncelaw13.EntityDecodes'. -/
def entityDecodesUptoCard : Claim7 := { stood := { row := entityDecodesUptoRow, standIns := [], harness := (true, "9fffd7e5bf7638746a58d540e8c2bd06d762aead8d53117eef8d6c8e60b0f064"), looks := true }, kinds := [], alts := [], laidByText := true, laidKinds := [.data, .data, .data, .sentinel, .sentinel, .widerDeep], laidTests := true, laidLooks := .later }
def EntityDecodesUptoCardSaid : Prop := Claim7.holds Tryd.pinned (.plain (OpenSpec.upto entityDecodesSpec)) entityDecodesUptoCard

/-- THE SECOND FORM's CARD OF 'pouncelaw13.EntityEncodes'. -/
def entityEncodesUptoCard : Claim7 := { stood := { row := entityEncodesUptoRow, standIns := [], harness := (true, "9fffd7e5bf7638746a58d540e8c2bd06d762aead8d53117eef8d6c8e60b0f064"), looks := true }, kinds := [], alts := [], laidByText := true, laidKinds := [.data, .data, .data, .sentinel, .sentinel, .widerDeep], laidTests := true, laidLooks := .later }
def EntityEncodesUptoCardSaid : Prop := Claim7.holds Tryd.pinned (.plain (OpenSpec.upto entityEncodesSpec)) entityEncodesUptoCard

/-- THE SECOND FORM's CARD OF 'pouncelaw13.EntityBack'. -/
def entityBackUptoCard : Claim7 := { stood := { row := entityBackUptoRow, standIns := [], harness := (true, "9fffd7e5bf7638746a58d540e8c2bd06d762aead8d53117eef8d6c8e60b0f064"), looks := true }, kinds := [], alts := [], laidByText := true, laidKinds := [.data, .data, .data, .sentinel, .sentinel, .widerDeep], laidTests := true, laidLooks := .later }
def EntityBackUptoCardSaid : Prop := Claim7.holds Tryd.pinned (.plain (OpenSpec.upto entityBackSpec)) entityBackUptoCard

/-- THE SECOND FORM's CARD OF 'pouncelaw13.EntityPlain'. -/
def entityPlainUptoCard : Claim7 := { stood := { row := entityPlainUptoRow, standIns := [], harness := (true, "9fffd7e5bf7638746a58d540e8c2bd06d762aead8d53117eef8d6c8e60b0f064"), looks := true }, kinds := [], alts := [], laidByText := true, laidKinds := [.data, .data, .data, .sentinel, .sentinel, .widerDeep], laidTests := true, laidLooks := .later }
def EntityPlainUptoCardSaid : Prop := Claim7.holds Tryd.pinned (.plain (OpenSpec.upto entityPlainSpec)) entityPlainUptoCard

/-- THE SECOND FORM's CARD OF 'pouncelaw13.EntityNames'. -/
def entityNamesUptoCard : Claim7 := { stood := { row := entityNamesUptoRow, standIns := [], harness := (true, "9fffd7e5bf7638746a58d540e8c2bd06d762aead8d53117eef8d6c8e60b0f064"), looks := true }, kinds := [], alts := [], laidByText := true, laidKinds := [.data, .data, .data, .sentinel, .sentinel, .widerDeep], laidTests := true, laidLooks := .later }
def EntityNamesUptoCardSaid : Prop := Claim7.holds Tryd.pinned (.plain (OpenSpec.upto entityNamesSpec)) entityNamesUptoCard

/-- THE SECOND FORM's CARD OF 'pouncelaw13.EntityJoins'. -/
def entityJoinsUptoCard : Claim7 := { stood := { row := entityJoinsUptoRow, standIns := [], harness := (true, "9fffd7e5bf7638746a58d540e8c2bd06d762aead8d53117eef8d6c8e60b0f064"), looks := true }, kinds := [], alts := [], laidByText := true, laidKinds := [.data, .data, .data, .sentinel, .sentinel, .widerDeep], laidTests := true, laidLooks := .later }
def EntityJoinsUptoCardSaid : Prop := Claim7.holds Tryd.pinned (.plain (OpenSpec.upto entityJoinsSpec)) entityJoinsUptoCard
end Rows
end Go.Proofs.YtgclokmkoningaaDoor
