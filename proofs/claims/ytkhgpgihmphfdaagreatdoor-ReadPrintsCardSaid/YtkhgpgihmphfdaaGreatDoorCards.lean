/-
  DERIVED. GIVEN WITH THE SEED: THE CARDS: each row of YtkhgpgihmphfdaaGreatDoorRows.lean that lists a variable, with what it lists TIED to the program's text (the seventh form; the later family's looks); each row that meets fmt, with fmt's text TOLD by the authors' own Lean function (tested against real Go, not proved from fmt's source: count such statements apart). THE CARD IS WHAT COUNTS. Prove the row's statement (the work); the ties are given (YtkhgpgihmphfdaaGreatDoorTie.lean); close each card by the builder's one call (the guide's Derived/Test/ToyasCard.lean, 'card_holds'). Laid BY PROGRAM, IN A SANDBOX (cutbox-door.mjs). By AI agents, Wed Nov 11 2026. No macro, syntax, notation, axiom, sorry.
-/
import Derived.Test.YtkhgpgihmphfdaaGreatDoorRows
import GoSem.ClaimSeven
namespace Go.Proofs.YtkhgpgihmphfdaaGreatDoor
namespace Rows

/-- THE TIED CARD OF 'fuguelaw06.ReadPrints'. -/
def readPrintsCard : Claim7 := { stood := { row := readPrintsRow, standIns := [], harness := (true, "cd3349e141e5a75caf813c49d4eb07cfe558215011ea3d90000988d0b3c3d7d9"), looks := true }, kinds := [], alts := [], laidByText := true, laidKinds := [.data, .data, .data], laidTests := true, laidLooks := .later }
def ReadPrintsCardSaid : Prop := Claim7.holds Tryz.pinned (.plain (OpenSpec.ofChange readPrintsSpec)) readPrintsCard

/-- THE TIED CARD OF 'fuguelaw06.ReadBlanks'. -/
def readBlanksCard : Claim7 := { stood := { row := readBlanksRow, standIns := [], harness := (true, "cd3349e141e5a75caf813c49d4eb07cfe558215011ea3d90000988d0b3c3d7d9"), looks := true }, kinds := [], alts := [], laidByText := true, laidKinds := [.data, .data, .data], laidTests := true, laidLooks := .later }
def ReadBlanksCardSaid : Prop := Claim7.holds Tryz.pinned (.plain (OpenSpec.ofChange readBlanksSpec)) readBlanksCard

/-- THE SECOND FORM's CARD OF 'fuguelaw06.ReadPrints'. -/
def readPrintsUptoCard : Claim7 := { stood := { row := readPrintsUptoRow, standIns := [], harness := (true, "cd3349e141e5a75caf813c49d4eb07cfe558215011ea3d90000988d0b3c3d7d9"), looks := true }, kinds := [], alts := [], laidByText := true, laidKinds := [.data, .data, .data], laidTests := true, laidLooks := .later }
def ReadPrintsUptoCardSaid : Prop := Claim7.holds Tryz.pinned (.plain (OpenSpec.upto readPrintsSpec)) readPrintsUptoCard

/-- THE SECOND FORM's CARD OF 'fuguelaw06.ReadBlanks'. -/
def readBlanksUptoCard : Claim7 := { stood := { row := readBlanksUptoRow, standIns := [], harness := (true, "cd3349e141e5a75caf813c49d4eb07cfe558215011ea3d90000988d0b3c3d7d9"), looks := true }, kinds := [], alts := [], laidByText := true, laidKinds := [.data, .data, .data], laidTests := true, laidLooks := .later }
def ReadBlanksUptoCardSaid : Prop := Claim7.holds Tryz.pinned (.plain (OpenSpec.upto readBlanksSpec)) readBlanksUptoCard
end Rows
end Go.Proofs.YtkhgpgihmphfdaaGreatDoor
