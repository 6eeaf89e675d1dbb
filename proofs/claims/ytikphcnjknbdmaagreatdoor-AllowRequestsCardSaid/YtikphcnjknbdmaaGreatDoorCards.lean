/-
  DERIVED. GIVEN WITH THE SEED: THE CARDS: each row of YtikphcnjknbdmaaGreatDoorRows.lean that lists a variable, with what it lists TIED to the program's text (the seventh form; the later family's looks); each row that meets fmt, with fmt's text TOLD by the authors' own Lean function (tested against real Go, not proved from fmt's source: count such statements apart). THE CARD IS WHAT COUNTS. Prove the row's statement (the work); the ties are given (YtikphcnjknbdmaaGreatDoorTie.lean); close each card by the builder's one call (the guide's Derived/Test/ToyasCard.lean, 'card_holds'). Laid BY PROGRAM, IN A SANDBOX (cutbox-door.mjs). By AI agents, Wed Nov 11 2026. No macro, syntax, notation, axiom, sorry.
-/
import Derived.Test.YtikphcnjknbdmaaGreatDoorRows
import GoSem.ClaimSeven
namespace Go.Proofs.YtikphcnjknbdmaaGreatDoor
namespace Rows

/-- THE TIED CARD OF 'pouncelaw11.AllowWitness'. -/
def allowWitnessCard : Claim7 := { stood := { row := allowWitnessRow, standIns := [], harness := (true, "4b59800a66875fc5557a074e63bef9f9815f6f0228c1045ed672f7b59fe4ab42"), looks := true }, kinds := [], alts := [], laidByText := true, laidKinds := [.data, .data, .data, .data, .data, .sentinel, .sentinel, .data, .pinned], laidTests := true, laidLooks := .later }
def AllowWitnessCardSaid : Prop := Claim7.holds Tryz.pinned (.plain (OpenSpec.ofChange allowWitnessSpec)) allowWitnessCard

/-- THE TIED CARD OF 'pouncelaw11.AllowNonce'. -/
def allowNonceCard : Claim7 := { stood := { row := allowNonceRow, standIns := [], harness := (true, "4b59800a66875fc5557a074e63bef9f9815f6f0228c1045ed672f7b59fe4ab42"), looks := true }, kinds := [], alts := [], laidByText := true, laidKinds := [.data, .data, .data, .data, .data, .sentinel, .sentinel, .data, .pinned], laidTests := true, laidLooks := .later }
def AllowNonceCardSaid : Prop := Claim7.holds Tryz.pinned (.plain (OpenSpec.ofChange allowNonceSpec)) allowNonceCard

/-- THE TIED CARD OF 'pouncelaw11.AllowParts'. -/
def allowPartsCard : Claim7 := { stood := { row := allowPartsRow, standIns := [], harness := (true, "4b59800a66875fc5557a074e63bef9f9815f6f0228c1045ed672f7b59fe4ab42"), looks := true }, kinds := [], alts := [], laidByText := true, laidKinds := [.data, .data, .data, .data, .data, .sentinel, .sentinel, .data, .pinned], laidTests := true, laidLooks := .later }
def AllowPartsCardSaid : Prop := Claim7.holds Tryz.pinned (.plain (OpenSpec.ofChange allowPartsSpec)) allowPartsCard

/-- THE TIED CARD OF 'pouncelaw11.AllowRequests'. -/
def allowRequestsCard : Claim7 := { stood := { row := allowRequestsRow, standIns := [], harness := (true, "4b59800a66875fc5557a074e63bef9f9815f6f0228c1045ed672f7b59fe4ab42"), looks := true }, kinds := [], alts := [], laidByText := true, laidKinds := [.data, .data, .data, .data, .data, .sentinel, .sentinel, .data, .pinned], laidTests := true, laidLooks := .later }
def AllowRequestsCardSaid : Prop := Claim7.holds Tryz.pinned (.plain (OpenSpec.ofChange allowRequestsSpec)) allowRequestsCard

/-- THE TIED CARD OF 'pouncelaw11.AllowNothing'. -/
def allowNothingCard : Claim7 := { stood := { row := allowNothingRow, standIns := [], harness := (true, "4b59800a66875fc5557a074e63bef9f9815f6f0228c1045ed672f7b59fe4ab42"), looks := true }, kinds := [], alts := [], laidByText := true, laidKinds := [.data, .data, .data, .data, .data, .sentinel, .sentinel, .data, .pinned], laidTests := true, laidLooks := .later }
def AllowNothingCardSaid : Prop := Claim7.holds Tryz.pinned (.plain (OpenSpec.ofChange allowNothingSpec)) allowNothingCard

/-- THE TIED CARD OF 'pouncelaw11.AllowOrder'. -/
def allowOrderCard : Claim7 := { stood := { row := allowOrderRow, standIns := [], harness := (true, "4b59800a66875fc5557a074e63bef9f9815f6f0228c1045ed672f7b59fe4ab42"), looks := true }, kinds := [], alts := [], laidByText := true, laidKinds := [.data, .data, .data, .data, .data, .sentinel, .sentinel, .data, .pinned], laidTests := true, laidLooks := .later }
def AllowOrderCardSaid : Prop := Claim7.holds Tryz.pinned (.plain (OpenSpec.ofChange allowOrderSpec)) allowOrderCard

/-- THE TIED CARD OF 'pouncelaw11.AllowMore'. -/
def allowMoreCard : Claim7 := { stood := { row := allowMoreRow, standIns := [], harness := (true, "4b59800a66875fc5557a074e63bef9f9815f6f0228c1045ed672f7b59fe4ab42"), looks := true }, kinds := [], alts := [], laidByText := true, laidKinds := [.data, .data, .data, .data, .data, .sentinel, .sentinel, .data, .pinned], laidTests := true, laidLooks := .later }
def AllowMoreCardSaid : Prop := Claim7.holds Tryz.pinned (.plain (OpenSpec.ofChange allowMoreSpec)) allowMoreCard

/-- THE SECOND FORM's CARD OF 'pouncelaw11.AllowWitness'. -/
def allowWitnessUptoCard : Claim7 := { stood := { row := allowWitnessUptoRow, standIns := [], harness := (true, "4b59800a66875fc5557a074e63bef9f9815f6f0228c1045ed672f7b59fe4ab42"), looks := true }, kinds := [], alts := [], laidByText := true, laidKinds := [.data, .data, .data, .data, .data, .sentinel, .sentinel, .data, .pinned], laidTests := true, laidLooks := .later }
def AllowWitnessUptoCardSaid : Prop := Claim7.holds Tryz.pinned (.plain (OpenSpec.upto allowWitnessSpec)) allowWitnessUptoCard

/-- THE SECOND FORM's CARD OF 'pouncelaw11.AllowNonce'. -/
def allowNonceUptoCard : Claim7 := { stood := { row := allowNonceUptoRow, standIns := [], harness := (true, "4b59800a66875fc5557a074e63bef9f9815f6f0228c1045ed672f7b59fe4ab42"), looks := true }, kinds := [], alts := [], laidByText := true, laidKinds := [.data, .data, .data, .data, .data, .sentinel, .sentinel, .data, .pinned], laidTests := true, laidLooks := .later }
def AllowNonceUptoCardSaid : Prop := Claim7.holds Tryz.pinned (.plain (OpenSpec.upto allowNonceSpec)) allowNonceUptoCard

/-- THE SECOND FORM's CARD OF 'pouncelaw11.AllowParts'. -/
def allowPartsUptoCard : Claim7 := { stood := { row := allowPartsUptoRow, standIns := [], harness := (true, "4b59800a66875fc5557a074e63bef9f9815f6f0228c1045ed672f7b59fe4ab42"), looks := true }, kinds := [], alts := [], laidByText := true, laidKinds := [.data, .data, .data, .data, .data, .sentinel, .sentinel, .data, .pinned], laidTests := true, laidLooks := .later }
def AllowPartsUptoCardSaid : Prop := Claim7.holds Tryz.pinned (.plain (OpenSpec.upto allowPartsSpec)) allowPartsUptoCard

/-- THE SECOND FORM's CARD OF 'pouncelaw11.AllowRequests'. -/
def allowRequestsUptoCard : Claim7 := { stood := { row := allowRequestsUptoRow, standIns := [], harness := (true, "4b59800a66875fc5557a074e63bef9f9815f6f0228c1045ed672f7b59fe4ab42"), looks := true }, kinds := [], alts := [], laidByText := true, laidKinds := [.data, .data, .data, .data, .data, .sentinel, .sentinel, .data, .pinned], laidTests := true, laidLooks := .later }
def AllowRequestsUptoCardSaid : Prop := Claim7.holds Tryz.pinned (.plain (OpenSpec.upto allowRequestsSpec)) allowRequestsUptoCard

/-- THE SECOND FORM's CARD OF 'pouncelaw11.AllowNothing'. -/
def allowNothingUptoCard : Claim7 := { stood := { row := allowNothingUptoRow, standIns := [], harness := (true, "4b59800a66875fc5557a074e63bef9f9815f6f0228c1045ed672f7b59fe4ab42"), looks := true }, kinds := [], alts := [], laidByText := true, laidKinds := [.data, .data, .data, .data, .data, .sentinel, .sentinel, .data, .pinned], laidTests := true, laidLooks := .later }
def AllowNothingUptoCardSaid : Prop := Claim7.holds Tryz.pinned (.plain (OpenSpec.upto allowNothingSpec)) allowNothingUptoCard

/-- THE SECOND FORM's CARD OF 'pouncelaw11.AllowOrder'. -/
def allowOrderUptoCard : Claim7 := { stood := { row := allowOrderUptoRow, standIns := [], harness := (true, "4b59800a66875fc5557a074e63bef9f9815f6f0228c1045ed672f7b59fe4ab42"), looks := true }, kinds := [], alts := [], laidByText := true, laidKinds := [.data, .data, .data, .data, .data, .sentinel, .sentinel, .data, .pinned], laidTests := true, laidLooks := .later }
def AllowOrderUptoCardSaid : Prop := Claim7.holds Tryz.pinned (.plain (OpenSpec.upto allowOrderSpec)) allowOrderUptoCard

/-- THE SECOND FORM's CARD OF 'pouncelaw11.AllowMore'. -/
def allowMoreUptoCard : Claim7 := { stood := { row := allowMoreUptoRow, standIns := [], harness := (true, "4b59800a66875fc5557a074e63bef9f9815f6f0228c1045ed672f7b59fe4ab42"), looks := true }, kinds := [], alts := [], laidByText := true, laidKinds := [.data, .data, .data, .data, .data, .sentinel, .sentinel, .data, .pinned], laidTests := true, laidLooks := .later }
def AllowMoreUptoCardSaid : Prop := Claim7.holds Tryz.pinned (.plain (OpenSpec.upto allowMoreSpec)) allowMoreUptoCard
end Rows
end Go.Proofs.YtikphcnjknbdmaaGreatDoor
