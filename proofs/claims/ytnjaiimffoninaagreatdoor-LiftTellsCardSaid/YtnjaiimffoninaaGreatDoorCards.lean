/-
  DERIVED. GIVEN WITH THE SEED: THE CARDS: each row of YtnjaiimffoninaaGreatDoorRows.lean that lists a variable, with what it lists TIED to the program's text (the seventh form; the later family's looks); each row that meets fmt, with fmt's text TOLD by the authors' own Lean function (tested against real Go, not proved from fmt's source: count such statements apart). THE CARD IS WHAT COUNTS. Prove the row's statement (the work); the ties are given (YtnjaiimffoninaaGreatDoorTie.lean); close each card by the builder's one call (the guide's Derived/Test/ToyasCard.lean, 'card_holds'). Laid BY PROGRAM, IN A SANDBOX (cutbox-door.mjs). By AI agents, Wed Nov 11 2026. No macro, syntax, notation, axiom, sorry.
-/
import Derived.Test.YtnjaiimffoninaaGreatDoorRows
import GoSem.ClaimSeven
namespace Go.Proofs.YtnjaiimffoninaaGreatDoor
namespace Rows

/-- THE TIED CARD OF 'fuguelaw25.LiftTells'. -/
def liftTellsCard : Claim7 := { stood := { row := liftTellsRow, standIns := [], harness := (true, "7c531ff1e9c4ad9a51ec771d2ba41da15575f10456dafc817f94f55c34f04d7b"), looks := false }, kinds := [], alts := [], laidByText := true, laidKinds := [.data, .data, .data], laidTests := true, laidLooks := .later }
def LiftTellsCardSaid : Prop := Claim7.holds Tryz.pinned (.plain (OpenSpec.ofChange liftTellsSpec)) liftTellsCard

/-- THE TIED CARD OF 'fuguelaw24.EraseSteps'. -/
def eraseStepsCard : Claim7 := { stood := { row := eraseStepsRow, standIns := [], harness := (true, "7c531ff1e9c4ad9a51ec771d2ba41da15575f10456dafc817f94f55c34f04d7b"), looks := false }, kinds := [], alts := [], laidByText := true, laidKinds := [.data, .data, .data], laidTests := true, laidLooks := .later }
def EraseStepsCardSaid : Prop := Claim7.holds Tryz.pinned (.plain (OpenSpec.ofChange eraseStepsSpec)) eraseStepsCard

/-- THE SECOND FORM's CARD OF 'fuguelaw25.LiftTells'. -/
def liftTellsUptoCard : Claim7 := { stood := { row := liftTellsUptoRow, standIns := [], harness := (true, "7c531ff1e9c4ad9a51ec771d2ba41da15575f10456dafc817f94f55c34f04d7b"), looks := false }, kinds := [], alts := [], laidByText := true, laidKinds := [.data, .data, .data], laidTests := true, laidLooks := .later }
def LiftTellsUptoCardSaid : Prop := Claim7.holds Tryz.pinned (.plain (OpenSpec.upto liftTellsSpec)) liftTellsUptoCard

/-- THE SECOND FORM's CARD OF 'fuguelaw24.EraseSteps'. -/
def eraseStepsUptoCard : Claim7 := { stood := { row := eraseStepsUptoRow, standIns := [], harness := (true, "7c531ff1e9c4ad9a51ec771d2ba41da15575f10456dafc817f94f55c34f04d7b"), looks := false }, kinds := [], alts := [], laidByText := true, laidKinds := [.data, .data, .data], laidTests := true, laidLooks := .later }
def EraseStepsUptoCardSaid : Prop := Claim7.holds Tryz.pinned (.plain (OpenSpec.upto eraseStepsSpec)) eraseStepsUptoCard
end Rows
end Go.Proofs.YtnjaiimffoninaaGreatDoor
