/-
  DERIVED. GIVEN WITH THE SEED: THE CARDS: each row of YtpmheldmadendaaGreatDoorRows.lean that lists a variable, with what it lists TIED to the program's text (the seventh form; the later family's looks); each row that meets fmt, with fmt's text TOLD by the authors' own Lean function (tested against real Go, not proved from fmt's source: count such statements apart). THE CARD IS WHAT COUNTS. Prove the row's statement (the work); the ties are given (YtpmheldmadendaaGreatDoorTie.lean); close each card by the builder's one call (the guide's Derived/Test/ToyasCard.lean, 'card_holds'). Laid BY PROGRAM, IN A SANDBOX (cutbox-door.mjs). By AI agents, Wed Nov 11 2026. No macro, syntax, notation, axiom, sorry.
-/
import Derived.Test.YtpmheldmadendaaGreatDoorRows
import GoSem.ClaimSeven
namespace Go.Proofs.YtpmheldmadendaaGreatDoor
namespace Rows

/-- THE TIED CARD OF 'fuguelaw06.ReadTyped'. -/
def readTypedCard : Claim7 := { stood := { row := readTypedRow, standIns := [], harness := (true, "b08ef535e29a9b6e90379598c943ca8c3713ad18c93c0347aef6146b5595303c"), looks := true }, kinds := [], alts := [], laidByText := true, laidKinds := [.data, .data, .data], laidTests := true, laidLooks := .later }
def ReadTypedCardSaid : Prop := Claim7.holds Tryz.pinned (.plain (OpenSpec.ofChange readTypedSpec)) readTypedCard

/-- THE TIED CARD OF 'fuguelaw06.ReadLimits'. -/
def readLimitsCard : Claim7 := { stood := { row := readLimitsRow, standIns := [], harness := (true, "b08ef535e29a9b6e90379598c943ca8c3713ad18c93c0347aef6146b5595303c"), looks := true }, kinds := [], alts := [], laidByText := true, laidKinds := [.data, .data, .data], laidTests := true, laidLooks := .later }
def ReadLimitsCardSaid : Prop := Claim7.holds Tryz.pinned (.plain (OpenSpec.ofChange readLimitsSpec)) readLimitsCard

/-- THE TIED CARD OF 'fuguelaw06.ReadPats'. -/
def readPatsCard : Claim7 := { stood := { row := readPatsRow, standIns := [], harness := (true, "b08ef535e29a9b6e90379598c943ca8c3713ad18c93c0347aef6146b5595303c"), looks := true }, kinds := [], alts := [], laidByText := true, laidKinds := [.data, .data, .data], laidTests := true, laidLooks := .later }
def ReadPatsCardSaid : Prop := Claim7.holds Tryz.pinned (.plain (OpenSpec.ofChange readPatsSpec)) readPatsCard

/-- THE TIED CARD OF 'fuguelaw06.ReadPrints'. -/
def readPrintsCard : Claim7 := { stood := { row := readPrintsRow, standIns := [], harness := (true, "b08ef535e29a9b6e90379598c943ca8c3713ad18c93c0347aef6146b5595303c"), looks := true }, kinds := [], alts := [], laidByText := true, laidKinds := [.data, .data, .data], laidTests := true, laidLooks := .later }
def ReadPrintsCardSaid : Prop := Claim7.holds Tryz.pinned (.plain (OpenSpec.ofChange readPrintsSpec)) readPrintsCard

/-- THE SECOND FORM's CARD OF 'fuguelaw06.ReadTyped'. -/
def readTypedUptoCard : Claim7 := { stood := { row := readTypedUptoRow, standIns := [], harness := (true, "b08ef535e29a9b6e90379598c943ca8c3713ad18c93c0347aef6146b5595303c"), looks := true }, kinds := [], alts := [], laidByText := true, laidKinds := [.data, .data, .data], laidTests := true, laidLooks := .later }
def ReadTypedUptoCardSaid : Prop := Claim7.holds Tryz.pinned (.plain (OpenSpec.upto readTypedSpec)) readTypedUptoCard

/-- THE SECOND FORM's CARD OF 'fuguelaw06.ReadLimits'. -/
def readLimitsUptoCard : Claim7 := { stood := { row := readLimitsUptoRow, standIns := [], harness := (true, "b08ef535e29a9b6e90379598c943ca8c3713ad18c93c0347aef6146b5595303c"), looks := true }, kinds := [], alts := [], laidByText := true, laidKinds := [.data, .data, .data], laidTests := true, laidLooks := .later }
def ReadLimitsUptoCardSaid : Prop := Claim7.holds Tryz.pinned (.plain (OpenSpec.upto readLimitsSpec)) readLimitsUptoCard

/-- THE SECOND FORM's CARD OF 'fuguelaw06.ReadPats'. -/
def readPatsUptoCard : Claim7 := { stood := { row := readPatsUptoRow, standIns := [], harness := (true, "b08ef535e29a9b6e90379598c943ca8c3713ad18c93c0347aef6146b5595303c"), looks := true }, kinds := [], alts := [], laidByText := true, laidKinds := [.data, .data, .data], laidTests := true, laidLooks := .later }
def ReadPatsUptoCardSaid : Prop := Claim7.holds Tryz.pinned (.plain (OpenSpec.upto readPatsSpec)) readPatsUptoCard

/-- THE SECOND FORM's CARD OF 'fuguelaw06.ReadPrints'. -/
def readPrintsUptoCard : Claim7 := { stood := { row := readPrintsUptoRow, standIns := [], harness := (true, "b08ef535e29a9b6e90379598c943ca8c3713ad18c93c0347aef6146b5595303c"), looks := true }, kinds := [], alts := [], laidByText := true, laidKinds := [.data, .data, .data], laidTests := true, laidLooks := .later }
def ReadPrintsUptoCardSaid : Prop := Claim7.holds Tryz.pinned (.plain (OpenSpec.upto readPrintsSpec)) readPrintsUptoCard
end Rows
end Go.Proofs.YtpmheldmadendaaGreatDoor
