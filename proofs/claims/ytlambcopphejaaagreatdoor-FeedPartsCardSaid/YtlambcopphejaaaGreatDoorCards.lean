/-
  DERIVED. GIVEN WITH THE SEED: THE CARDS: each row of YtlambcopphejaaaGreatDoorRows.lean that lists a variable, with what it lists TIED to the program's text (the seventh form; the later family's looks); each row that meets fmt, with fmt's text TOLD by the authors' own Lean function (tested against real Go, not proved from fmt's source: count such statements apart). THE CARD IS WHAT COUNTS. Prove the row's statement (the work); the ties are given (YtlambcopphejaaaGreatDoorTie.lean); close each card by the builder's one call (the guide's Derived/Test/ToyasCard.lean, 'card_holds'). Laid BY PROGRAM, IN A SANDBOX (cutbox-door.mjs). By AI agents, Wed Nov 11 2026. No macro, syntax, notation, axiom, sorry.
-/
import Derived.Test.YtlambcopphejaaaGreatDoorRows
import GoSem.ClaimSeven
namespace Go.Proofs.YtlambcopphejaaaGreatDoor
namespace Rows

/-- THE TIED CARD OF 'pouncelaw14.TokenTells'. -/
def tokenTellsCard : Claim7 := { stood := { row := tokenTellsRow, standIns := [], harness := (true, "ecef1ec7e44a9e46ba220098b3cb2641ddbc96807ed163cc22b62f94f64698ec"), looks := true }, kinds := [], alts := [], laidByText := true, laidKinds := [.data, .data, .data, .data, .sentinel, .sentinel, .widerDeep, .pinned], laidTests := true, laidLooks := .later }
def TokenTellsCardSaid : Prop := Claim7.holds Tryz.pinned (.plain (OpenSpec.ofChange tokenTellsSpec)) tokenTellsCard

/-- THE TIED CARD OF 'pouncelaw14.TokenPrints'. -/
def tokenPrintsCard : Claim7 := { stood := { row := tokenPrintsRow, standIns := [], harness := (true, "ecef1ec7e44a9e46ba220098b3cb2641ddbc96807ed163cc22b62f94f64698ec"), looks := true }, kinds := [], alts := [], laidByText := true, laidKinds := [.data, .data, .data, .data, .sentinel, .sentinel, .widerDeep, .pinned], laidTests := true, laidLooks := .later }
def TokenPrintsCardSaid : Prop := Claim7.holds Tryz.pinned (.plain (OpenSpec.ofChange tokenPrintsSpec)) tokenPrintsCard

/-- THE TIED CARD OF 'pouncelaw14.TokenBack'. -/
def tokenBackCard : Claim7 := { stood := { row := tokenBackRow, standIns := [], harness := (true, "ecef1ec7e44a9e46ba220098b3cb2641ddbc96807ed163cc22b62f94f64698ec"), looks := true }, kinds := [], alts := [], laidByText := true, laidKinds := [.data, .data, .data, .data, .sentinel, .sentinel, .widerDeep, .pinned], laidTests := true, laidLooks := .later }
def TokenBackCardSaid : Prop := Claim7.holds Tryz.pinned (.plain (OpenSpec.ofChange tokenBackSpec)) tokenBackCard

/-- THE TIED CARD OF 'pouncelaw14.TokenPlain'. -/
def tokenPlainCard : Claim7 := { stood := { row := tokenPlainRow, standIns := [], harness := (true, "ecef1ec7e44a9e46ba220098b3cb2641ddbc96807ed163cc22b62f94f64698ec"), looks := true }, kinds := [], alts := [], laidByText := true, laidKinds := [.data, .data, .data, .data, .sentinel, .sentinel, .widerDeep, .pinned], laidTests := true, laidLooks := .later }
def TokenPlainCardSaid : Prop := Claim7.holds Tryz.pinned (.plain (OpenSpec.ofChange tokenPlainSpec)) tokenPlainCard

/-- THE TIED CARD OF 'pouncelaw14.TokenForms'. -/
def tokenFormsCard : Claim7 := { stood := { row := tokenFormsRow, standIns := [], harness := (true, "ecef1ec7e44a9e46ba220098b3cb2641ddbc96807ed163cc22b62f94f64698ec"), looks := true }, kinds := [], alts := [], laidByText := true, laidKinds := [.data, .data, .data, .data, .sentinel, .sentinel, .widerDeep, .pinned], laidTests := true, laidLooks := .later }
def TokenFormsCardSaid : Prop := Claim7.holds Tryz.pinned (.plain (OpenSpec.ofChange tokenFormsSpec)) tokenFormsCard

/-- THE TIED CARD OF 'pouncelaw14.TokenJoins'. -/
def tokenJoinsCard : Claim7 := { stood := { row := tokenJoinsRow, standIns := [], harness := (true, "ecef1ec7e44a9e46ba220098b3cb2641ddbc96807ed163cc22b62f94f64698ec"), looks := true }, kinds := [], alts := [], laidByText := true, laidKinds := [.data, .data, .data, .data, .sentinel, .sentinel, .widerDeep, .pinned], laidTests := true, laidLooks := .later }
def TokenJoinsCardSaid : Prop := Claim7.holds Tryz.pinned (.plain (OpenSpec.ofChange tokenJoinsSpec)) tokenJoinsCard

/-- THE TIED CARD OF 'pouncelaw15.FeedWhole'. -/
def feedWholeCard : Claim7 := { stood := { row := feedWholeRow, standIns := [], harness := (true, "ecef1ec7e44a9e46ba220098b3cb2641ddbc96807ed163cc22b62f94f64698ec"), looks := true }, kinds := [], alts := [], laidByText := true, laidKinds := [.data, .data, .data, .data, .sentinel, .sentinel, .widerDeep, .pinned], laidTests := true, laidLooks := .later }
def FeedWholeCardSaid : Prop := Claim7.holds Tryz.pinned (.plain (OpenSpec.ofChange feedWholeSpec)) feedWholeCard

/-- THE TIED CARD OF 'pouncelaw15.FeedParts'. -/
def feedPartsCard : Claim7 := { stood := { row := feedPartsRow, standIns := [], harness := (true, "ecef1ec7e44a9e46ba220098b3cb2641ddbc96807ed163cc22b62f94f64698ec"), looks := true }, kinds := [], alts := [], laidByText := true, laidKinds := [.data, .data, .data, .data, .sentinel, .sentinel, .widerDeep, .pinned], laidTests := true, laidLooks := .later }
def FeedPartsCardSaid : Prop := Claim7.holds Tryz.pinned (.plain (OpenSpec.ofChange feedPartsSpec)) feedPartsCard

/-- THE TIED CARD OF 'pouncelaw15.FeedLimits'. -/
def feedLimitsCard : Claim7 := { stood := { row := feedLimitsRow, standIns := [], harness := (true, "ecef1ec7e44a9e46ba220098b3cb2641ddbc96807ed163cc22b62f94f64698ec"), looks := true }, kinds := [], alts := [], laidByText := true, laidKinds := [.data, .data, .data, .data, .sentinel, .sentinel, .widerDeep, .pinned], laidTests := true, laidLooks := .later }
def FeedLimitsCardSaid : Prop := Claim7.holds Tryz.pinned (.plain (OpenSpec.ofChange feedLimitsSpec)) feedLimitsCard

/-- THE TIED CARD OF 'pouncelaw15.FeedDecoded'. -/
def feedDecodedCard : Claim7 := { stood := { row := feedDecodedRow, standIns := [], harness := (true, "ecef1ec7e44a9e46ba220098b3cb2641ddbc96807ed163cc22b62f94f64698ec"), looks := true }, kinds := [], alts := [], laidByText := true, laidKinds := [.data, .data, .data, .data, .sentinel, .sentinel, .widerDeep, .pinned], laidTests := true, laidLooks := .later }
def FeedDecodedCardSaid : Prop := Claim7.holds Tryz.pinned (.plain (OpenSpec.ofChange feedDecodedSpec)) feedDecodedCard

/-- THE TIED CARD OF 'pouncelaw15.FeedNil'. -/
def feedNilCard : Claim7 := { stood := { row := feedNilRow, standIns := [], harness := (true, "ecef1ec7e44a9e46ba220098b3cb2641ddbc96807ed163cc22b62f94f64698ec"), looks := true }, kinds := [], alts := [], laidByText := true, laidKinds := [.data, .data, .data, .data, .sentinel, .sentinel, .widerDeep, .pinned], laidTests := true, laidLooks := .later }
def FeedNilCardSaid : Prop := Claim7.holds Tryz.pinned (.plain (OpenSpec.ofChange feedNilSpec)) feedNilCard

/-- THE TIED CARD OF 'pouncelaw15.FeedNothing'. -/
def feedNothingCard : Claim7 := { stood := { row := feedNothingRow, standIns := [], harness := (true, "ecef1ec7e44a9e46ba220098b3cb2641ddbc96807ed163cc22b62f94f64698ec"), looks := true }, kinds := [], alts := [], laidByText := true, laidKinds := [.data, .data, .data, .data, .sentinel, .sentinel, .widerDeep, .pinned], laidTests := true, laidLooks := .later }
def FeedNothingCardSaid : Prop := Claim7.holds Tryz.pinned (.plain (OpenSpec.ofChange feedNothingSpec)) feedNothingCard

/-- THE SECOND FORM's CARD OF 'pouncelaw14.TokenTells'. -/
def tokenTellsUptoCard : Claim7 := { stood := { row := tokenTellsUptoRow, standIns := [], harness := (true, "ecef1ec7e44a9e46ba220098b3cb2641ddbc96807ed163cc22b62f94f64698ec"), looks := true }, kinds := [], alts := [], laidByText := true, laidKinds := [.data, .data, .data, .data, .sentinel, .sentinel, .widerDeep, .pinned], laidTests := true, laidLooks := .later }
def TokenTellsUptoCardSaid : Prop := Claim7.holds Tryz.pinned (.plain (OpenSpec.upto tokenTellsSpec)) tokenTellsUptoCard

/-- THE SECOND FORM's CARD OF 'pouncelaw14.TokenPrints'. -/
def tokenPrintsUptoCard : Claim7 := { stood := { row := tokenPrintsUptoRow, standIns := [], harness := (true, "ecef1ec7e44a9e46ba220098b3cb2641ddbc96807ed163cc22b62f94f64698ec"), looks := true }, kinds := [], alts := [], laidByText := true, laidKinds := [.data, .data, .data, .data, .sentinel, .sentinel, .widerDeep, .pinned], laidTests := true, laidLooks := .later }
def TokenPrintsUptoCardSaid : Prop := Claim7.holds Tryz.pinned (.plain (OpenSpec.upto tokenPrintsSpec)) tokenPrintsUptoCard

/-- THE SECOND FORM's CARD OF 'pouncelaw14.TokenBack'. -/
def tokenBackUptoCard : Claim7 := { stood := { row := tokenBackUptoRow, standIns := [], harness := (true, "ecef1ec7e44a9e46ba220098b3cb2641ddbc96807ed163cc22b62f94f64698ec"), looks := true }, kinds := [], alts := [], laidByText := true, laidKinds := [.data, .data, .data, .data, .sentinel, .sentinel, .widerDeep, .pinned], laidTests := true, laidLooks := .later }
def TokenBackUptoCardSaid : Prop := Claim7.holds Tryz.pinned (.plain (OpenSpec.upto tokenBackSpec)) tokenBackUptoCard

/-- THE SECOND FORM's CARD OF 'pouncelaw14.TokenPlain'. -/
def tokenPlainUptoCard : Claim7 := { stood := { row := tokenPlainUptoRow, standIns := [], harness := (true, "ecef1ec7e44a9e46ba220098b3cb2641ddbc96807ed163cc22b62f94f64698ec"), looks := true }, kinds := [], alts := [], laidByText := true, laidKinds := [.data, .data, .data, .data, .sentinel, .sentinel, .widerDeep, .pinned], laidTests := true, laidLooks := .later }
def TokenPlainUptoCardSaid : Prop := Claim7.holds Tryz.pinned (.plain (OpenSpec.upto tokenPlainSpec)) tokenPlainUptoCard

/-- THE SECOND FORM's CARD OF 'pouncelaw14.TokenForms'. -/
def tokenFormsUptoCard : Claim7 := { stood := { row := tokenFormsUptoRow, standIns := [], harness := (true, "ecef1ec7e44a9e46ba220098b3cb2641ddbc96807ed163cc22b62f94f64698ec"), looks := true }, kinds := [], alts := [], laidByText := true, laidKinds := [.data, .data, .data, .data, .sentinel, .sentinel, .widerDeep, .pinned], laidTests := true, laidLooks := .later }
def TokenFormsUptoCardSaid : Prop := Claim7.holds Tryz.pinned (.plain (OpenSpec.upto tokenFormsSpec)) tokenFormsUptoCard

/-- THE SECOND FORM's CARD OF 'pouncelaw14.TokenJoins'. -/
def tokenJoinsUptoCard : Claim7 := { stood := { row := tokenJoinsUptoRow, standIns := [], harness := (true, "ecef1ec7e44a9e46ba220098b3cb2641ddbc96807ed163cc22b62f94f64698ec"), looks := true }, kinds := [], alts := [], laidByText := true, laidKinds := [.data, .data, .data, .data, .sentinel, .sentinel, .widerDeep, .pinned], laidTests := true, laidLooks := .later }
def TokenJoinsUptoCardSaid : Prop := Claim7.holds Tryz.pinned (.plain (OpenSpec.upto tokenJoinsSpec)) tokenJoinsUptoCard

/-- THE SECOND FORM's CARD OF 'pouncelaw15.FeedWhole'. -/
def feedWholeUptoCard : Claim7 := { stood := { row := feedWholeUptoRow, standIns := [], harness := (true, "ecef1ec7e44a9e46ba220098b3cb2641ddbc96807ed163cc22b62f94f64698ec"), looks := true }, kinds := [], alts := [], laidByText := true, laidKinds := [.data, .data, .data, .data, .sentinel, .sentinel, .widerDeep, .pinned], laidTests := true, laidLooks := .later }
def FeedWholeUptoCardSaid : Prop := Claim7.holds Tryz.pinned (.plain (OpenSpec.upto feedWholeSpec)) feedWholeUptoCard

/-- THE SECOND FORM's CARD OF 'pouncelaw15.FeedParts'. -/
def feedPartsUptoCard : Claim7 := { stood := { row := feedPartsUptoRow, standIns := [], harness := (true, "ecef1ec7e44a9e46ba220098b3cb2641ddbc96807ed163cc22b62f94f64698ec"), looks := true }, kinds := [], alts := [], laidByText := true, laidKinds := [.data, .data, .data, .data, .sentinel, .sentinel, .widerDeep, .pinned], laidTests := true, laidLooks := .later }
def FeedPartsUptoCardSaid : Prop := Claim7.holds Tryz.pinned (.plain (OpenSpec.upto feedPartsSpec)) feedPartsUptoCard

/-- THE SECOND FORM's CARD OF 'pouncelaw15.FeedLimits'. -/
def feedLimitsUptoCard : Claim7 := { stood := { row := feedLimitsUptoRow, standIns := [], harness := (true, "ecef1ec7e44a9e46ba220098b3cb2641ddbc96807ed163cc22b62f94f64698ec"), looks := true }, kinds := [], alts := [], laidByText := true, laidKinds := [.data, .data, .data, .data, .sentinel, .sentinel, .widerDeep, .pinned], laidTests := true, laidLooks := .later }
def FeedLimitsUptoCardSaid : Prop := Claim7.holds Tryz.pinned (.plain (OpenSpec.upto feedLimitsSpec)) feedLimitsUptoCard

/-- THE SECOND FORM's CARD OF 'pouncelaw15.FeedDecoded'. -/
def feedDecodedUptoCard : Claim7 := { stood := { row := feedDecodedUptoRow, standIns := [], harness := (true, "ecef1ec7e44a9e46ba220098b3cb2641ddbc96807ed163cc22b62f94f64698ec"), looks := true }, kinds := [], alts := [], laidByText := true, laidKinds := [.data, .data, .data, .data, .sentinel, .sentinel, .widerDeep, .pinned], laidTests := true, laidLooks := .later }
def FeedDecodedUptoCardSaid : Prop := Claim7.holds Tryz.pinned (.plain (OpenSpec.upto feedDecodedSpec)) feedDecodedUptoCard

/-- THE SECOND FORM's CARD OF 'pouncelaw15.FeedNil'. -/
def feedNilUptoCard : Claim7 := { stood := { row := feedNilUptoRow, standIns := [], harness := (true, "ecef1ec7e44a9e46ba220098b3cb2641ddbc96807ed163cc22b62f94f64698ec"), looks := true }, kinds := [], alts := [], laidByText := true, laidKinds := [.data, .data, .data, .data, .sentinel, .sentinel, .widerDeep, .pinned], laidTests := true, laidLooks := .later }
def FeedNilUptoCardSaid : Prop := Claim7.holds Tryz.pinned (.plain (OpenSpec.upto feedNilSpec)) feedNilUptoCard

/-- THE SECOND FORM's CARD OF 'pouncelaw15.FeedNothing'. -/
def feedNothingUptoCard : Claim7 := { stood := { row := feedNothingUptoRow, standIns := [], harness := (true, "ecef1ec7e44a9e46ba220098b3cb2641ddbc96807ed163cc22b62f94f64698ec"), looks := true }, kinds := [], alts := [], laidByText := true, laidKinds := [.data, .data, .data, .data, .sentinel, .sentinel, .widerDeep, .pinned], laidTests := true, laidLooks := .later }
def FeedNothingUptoCardSaid : Prop := Claim7.holds Tryz.pinned (.plain (OpenSpec.upto feedNothingSpec)) feedNothingUptoCard
end Rows
end Go.Proofs.YtlambcopphejaaaGreatDoor
