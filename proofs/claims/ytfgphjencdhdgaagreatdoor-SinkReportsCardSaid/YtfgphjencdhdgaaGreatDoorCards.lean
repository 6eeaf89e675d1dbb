/-
  DERIVED. GIVEN WITH THE SEED: THE CARDS: each row of YtfgphjencdhdgaaGreatDoorRows.lean that lists a variable, with what it lists TIED to the program's text (the seventh form; the later family's looks); each row that meets fmt, with fmt's text TOLD by the authors' own Lean function (tested against real Go, not proved from fmt's source: count such statements apart). THE CARD IS WHAT COUNTS. Prove the row's statement (the work); the ties are given (YtfgphjencdhdgaaGreatDoorTie.lean); close each card by the builder's one call (the guide's Derived/Test/ToyasCard.lean, 'card_holds'). Laid BY PROGRAM, IN A SANDBOX (cutbox-door.mjs). By AI agents, Wed Nov 11 2026. No macro, syntax, notation, axiom, sorry.
-/
import Derived.Test.YtfgphjencdhdgaaGreatDoorRows
import GoSem.ClaimSeven
namespace Go.Proofs.YtfgphjencdhdgaaGreatDoor
namespace Rows

/-- THE TIED CARD OF 'pouncelaw20.SinkTakes'. -/
def sinkTakesCard : Claim7 := { stood := { row := sinkTakesRow, standIns := [], harness := (true, "d9063062b232184f1a4d0aa061efb740db52589b49e5fecf8d3bbafc92d8fbe3"), looks := true }, kinds := [], alts := [], laidByText := true, laidKinds := [.data, .data, .data, .data, .sentinel, .sentinel, .widerDeep, .pinned], laidTests := true, laidLooks := .later }
def SinkTakesCardSaid : Prop := Claim7.holds Tryz.pinned (.plain (OpenSpec.ofChange sinkTakesSpec)) sinkTakesCard

/-- THE TIED CARD OF 'pouncelaw20.SinkComplies'. -/
def sinkCompliesCard : Claim7 := { stood := { row := sinkCompliesRow, standIns := [], harness := (true, "d9063062b232184f1a4d0aa061efb740db52589b49e5fecf8d3bbafc92d8fbe3"), looks := true }, kinds := [], alts := [], laidByText := true, laidKinds := [.data, .data, .data, .data, .sentinel, .sentinel, .widerDeep, .pinned], laidTests := true, laidLooks := .later }
def SinkCompliesCardSaid : Prop := Claim7.holds Tryz.pinned (.plain (OpenSpec.ofChange sinkCompliesSpec)) sinkCompliesCard

/-- THE TIED CARD OF 'pouncelaw20.SinkFree'. -/
def sinkFreeCard : Claim7 := { stood := { row := sinkFreeRow, standIns := [], harness := (true, "d9063062b232184f1a4d0aa061efb740db52589b49e5fecf8d3bbafc92d8fbe3"), looks := true }, kinds := [], alts := [], laidByText := true, laidKinds := [.data, .data, .data, .data, .sentinel, .sentinel, .widerDeep, .pinned], laidTests := true, laidLooks := .later }
def SinkFreeCardSaid : Prop := Claim7.holds Tryz.pinned (.plain (OpenSpec.ofChange sinkFreeSpec)) sinkFreeCard

/-- THE TIED CARD OF 'pouncelaw20.SinkNames'. -/
def sinkNamesCard : Claim7 := { stood := { row := sinkNamesRow, standIns := [], harness := (true, "d9063062b232184f1a4d0aa061efb740db52589b49e5fecf8d3bbafc92d8fbe3"), looks := true }, kinds := [], alts := [], laidByText := true, laidKinds := [.data, .data, .data, .data, .sentinel, .sentinel, .widerDeep, .pinned], laidTests := true, laidLooks := .later }
def SinkNamesCardSaid : Prop := Claim7.holds Tryz.pinned (.plain (OpenSpec.ofChange sinkNamesSpec)) sinkNamesCard

/-- THE TIED CARD OF 'pouncelaw20.SinkReports'. -/
def sinkReportsCard : Claim7 := { stood := { row := sinkReportsRow, standIns := [], harness := (true, "d9063062b232184f1a4d0aa061efb740db52589b49e5fecf8d3bbafc92d8fbe3"), looks := true }, kinds := [], alts := [], laidByText := true, laidKinds := [.data, .data, .data, .data, .sentinel, .sentinel, .widerDeep, .pinned], laidTests := true, laidLooks := .later }
def SinkReportsCardSaid : Prop := Claim7.holds Tryz.pinned (.plain (OpenSpec.ofChange sinkReportsSpec)) sinkReportsCard

/-- THE TIED CARD OF 'pouncelaw18.ScriptReady'. -/
def scriptReadyCard : Claim7 := { stood := { row := scriptReadyRow, standIns := [], harness := (true, "d9063062b232184f1a4d0aa061efb740db52589b49e5fecf8d3bbafc92d8fbe3"), looks := true }, kinds := [], alts := [], laidByText := true, laidKinds := [.data, .data, .data, .data, .sentinel, .sentinel, .widerDeep, .pinned], laidTests := true, laidLooks := .later }
def ScriptReadyCardSaid : Prop := Claim7.holds Tryz.pinned (.plain (OpenSpec.ofChange scriptReadySpec)) scriptReadyCard

/-- THE TIED CARD OF 'pouncelaw18.ScriptBelow'. -/
def scriptBelowCard : Claim7 := { stood := { row := scriptBelowRow, standIns := [], harness := (true, "d9063062b232184f1a4d0aa061efb740db52589b49e5fecf8d3bbafc92d8fbe3"), looks := true }, kinds := [], alts := [], laidByText := true, laidKinds := [.data, .data, .data, .data, .sentinel, .sentinel, .widerDeep, .pinned], laidTests := true, laidLooks := .later }
def ScriptBelowCardSaid : Prop := Claim7.holds Tryz.pinned (.plain (OpenSpec.ofChange scriptBelowSpec)) scriptBelowCard

/-- THE TIED CARD OF 'pouncelaw18.ScriptOnce'. -/
def scriptOnceCard : Claim7 := { stood := { row := scriptOnceRow, standIns := [], harness := (true, "d9063062b232184f1a4d0aa061efb740db52589b49e5fecf8d3bbafc92d8fbe3"), looks := true }, kinds := [], alts := [], laidByText := true, laidKinds := [.data, .data, .data, .data, .sentinel, .sentinel, .widerDeep, .pinned], laidTests := true, laidLooks := .later }
def ScriptOnceCardSaid : Prop := Claim7.holds Tryz.pinned (.plain (OpenSpec.ofChange scriptOnceSpec)) scriptOnceCard

/-- THE TIED CARD OF 'pouncelaw18.ScriptOut'. -/
def scriptOutCard : Claim7 := { stood := { row := scriptOutRow, standIns := [], harness := (true, "d9063062b232184f1a4d0aa061efb740db52589b49e5fecf8d3bbafc92d8fbe3"), looks := true }, kinds := [], alts := [], laidByText := true, laidKinds := [.data, .data, .data, .data, .sentinel, .sentinel, .widerDeep, .pinned], laidTests := true, laidLooks := .later }
def ScriptOutCardSaid : Prop := Claim7.holds Tryz.pinned (.plain (OpenSpec.ofChange scriptOutSpec)) scriptOutCard

/-- THE TIED CARD OF 'pouncelaw18.ScriptStarts'. -/
def scriptStartsCard : Claim7 := { stood := { row := scriptStartsRow, standIns := [], harness := (true, "d9063062b232184f1a4d0aa061efb740db52589b49e5fecf8d3bbafc92d8fbe3"), looks := true }, kinds := [], alts := [], laidByText := true, laidKinds := [.data, .data, .data, .data, .sentinel, .sentinel, .widerDeep, .pinned], laidTests := true, laidLooks := .later }
def ScriptStartsCardSaid : Prop := Claim7.holds Tryz.pinned (.plain (OpenSpec.ofChange scriptStartsSpec)) scriptStartsCard

/-- THE SECOND FORM's CARD OF 'pouncelaw20.SinkTakes'. -/
def sinkTakesUptoCard : Claim7 := { stood := { row := sinkTakesUptoRow, standIns := [], harness := (true, "d9063062b232184f1a4d0aa061efb740db52589b49e5fecf8d3bbafc92d8fbe3"), looks := true }, kinds := [], alts := [], laidByText := true, laidKinds := [.data, .data, .data, .data, .sentinel, .sentinel, .widerDeep, .pinned], laidTests := true, laidLooks := .later }
def SinkTakesUptoCardSaid : Prop := Claim7.holds Tryz.pinned (.plain (OpenSpec.upto sinkTakesSpec)) sinkTakesUptoCard

/-- THE SECOND FORM's CARD OF 'pouncelaw20.SinkComplies'. -/
def sinkCompliesUptoCard : Claim7 := { stood := { row := sinkCompliesUptoRow, standIns := [], harness := (true, "d9063062b232184f1a4d0aa061efb740db52589b49e5fecf8d3bbafc92d8fbe3"), looks := true }, kinds := [], alts := [], laidByText := true, laidKinds := [.data, .data, .data, .data, .sentinel, .sentinel, .widerDeep, .pinned], laidTests := true, laidLooks := .later }
def SinkCompliesUptoCardSaid : Prop := Claim7.holds Tryz.pinned (.plain (OpenSpec.upto sinkCompliesSpec)) sinkCompliesUptoCard

/-- THE SECOND FORM's CARD OF 'pouncelaw20.SinkFree'. -/
def sinkFreeUptoCard : Claim7 := { stood := { row := sinkFreeUptoRow, standIns := [], harness := (true, "d9063062b232184f1a4d0aa061efb740db52589b49e5fecf8d3bbafc92d8fbe3"), looks := true }, kinds := [], alts := [], laidByText := true, laidKinds := [.data, .data, .data, .data, .sentinel, .sentinel, .widerDeep, .pinned], laidTests := true, laidLooks := .later }
def SinkFreeUptoCardSaid : Prop := Claim7.holds Tryz.pinned (.plain (OpenSpec.upto sinkFreeSpec)) sinkFreeUptoCard

/-- THE SECOND FORM's CARD OF 'pouncelaw20.SinkNames'. -/
def sinkNamesUptoCard : Claim7 := { stood := { row := sinkNamesUptoRow, standIns := [], harness := (true, "d9063062b232184f1a4d0aa061efb740db52589b49e5fecf8d3bbafc92d8fbe3"), looks := true }, kinds := [], alts := [], laidByText := true, laidKinds := [.data, .data, .data, .data, .sentinel, .sentinel, .widerDeep, .pinned], laidTests := true, laidLooks := .later }
def SinkNamesUptoCardSaid : Prop := Claim7.holds Tryz.pinned (.plain (OpenSpec.upto sinkNamesSpec)) sinkNamesUptoCard

/-- THE SECOND FORM's CARD OF 'pouncelaw20.SinkReports'. -/
def sinkReportsUptoCard : Claim7 := { stood := { row := sinkReportsUptoRow, standIns := [], harness := (true, "d9063062b232184f1a4d0aa061efb740db52589b49e5fecf8d3bbafc92d8fbe3"), looks := true }, kinds := [], alts := [], laidByText := true, laidKinds := [.data, .data, .data, .data, .sentinel, .sentinel, .widerDeep, .pinned], laidTests := true, laidLooks := .later }
def SinkReportsUptoCardSaid : Prop := Claim7.holds Tryz.pinned (.plain (OpenSpec.upto sinkReportsSpec)) sinkReportsUptoCard

/-- THE SECOND FORM's CARD OF 'pouncelaw18.ScriptReady'. -/
def scriptReadyUptoCard : Claim7 := { stood := { row := scriptReadyUptoRow, standIns := [], harness := (true, "d9063062b232184f1a4d0aa061efb740db52589b49e5fecf8d3bbafc92d8fbe3"), looks := true }, kinds := [], alts := [], laidByText := true, laidKinds := [.data, .data, .data, .data, .sentinel, .sentinel, .widerDeep, .pinned], laidTests := true, laidLooks := .later }
def ScriptReadyUptoCardSaid : Prop := Claim7.holds Tryz.pinned (.plain (OpenSpec.upto scriptReadySpec)) scriptReadyUptoCard

/-- THE SECOND FORM's CARD OF 'pouncelaw18.ScriptBelow'. -/
def scriptBelowUptoCard : Claim7 := { stood := { row := scriptBelowUptoRow, standIns := [], harness := (true, "d9063062b232184f1a4d0aa061efb740db52589b49e5fecf8d3bbafc92d8fbe3"), looks := true }, kinds := [], alts := [], laidByText := true, laidKinds := [.data, .data, .data, .data, .sentinel, .sentinel, .widerDeep, .pinned], laidTests := true, laidLooks := .later }
def ScriptBelowUptoCardSaid : Prop := Claim7.holds Tryz.pinned (.plain (OpenSpec.upto scriptBelowSpec)) scriptBelowUptoCard

/-- THE SECOND FORM's CARD OF 'pouncelaw18.ScriptOnce'. -/
def scriptOnceUptoCard : Claim7 := { stood := { row := scriptOnceUptoRow, standIns := [], harness := (true, "d9063062b232184f1a4d0aa061efb740db52589b49e5fecf8d3bbafc92d8fbe3"), looks := true }, kinds := [], alts := [], laidByText := true, laidKinds := [.data, .data, .data, .data, .sentinel, .sentinel, .widerDeep, .pinned], laidTests := true, laidLooks := .later }
def ScriptOnceUptoCardSaid : Prop := Claim7.holds Tryz.pinned (.plain (OpenSpec.upto scriptOnceSpec)) scriptOnceUptoCard

/-- THE SECOND FORM's CARD OF 'pouncelaw18.ScriptOut'. -/
def scriptOutUptoCard : Claim7 := { stood := { row := scriptOutUptoRow, standIns := [], harness := (true, "d9063062b232184f1a4d0aa061efb740db52589b49e5fecf8d3bbafc92d8fbe3"), looks := true }, kinds := [], alts := [], laidByText := true, laidKinds := [.data, .data, .data, .data, .sentinel, .sentinel, .widerDeep, .pinned], laidTests := true, laidLooks := .later }
def ScriptOutUptoCardSaid : Prop := Claim7.holds Tryz.pinned (.plain (OpenSpec.upto scriptOutSpec)) scriptOutUptoCard

/-- THE SECOND FORM's CARD OF 'pouncelaw18.ScriptStarts'. -/
def scriptStartsUptoCard : Claim7 := { stood := { row := scriptStartsUptoRow, standIns := [], harness := (true, "d9063062b232184f1a4d0aa061efb740db52589b49e5fecf8d3bbafc92d8fbe3"), looks := true }, kinds := [], alts := [], laidByText := true, laidKinds := [.data, .data, .data, .data, .sentinel, .sentinel, .widerDeep, .pinned], laidTests := true, laidLooks := .later }
def ScriptStartsUptoCardSaid : Prop := Claim7.holds Tryz.pinned (.plain (OpenSpec.upto scriptStartsSpec)) scriptStartsUptoCard
end Rows
end Go.Proofs.YtfgphjencdhdgaaGreatDoor
