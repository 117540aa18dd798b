/-
  DERIVED. GIVEN WITH THE SEED: THE CARDS: each row of YtmoekkcdkjopgaaGreatDoorRows.lean that lists a variable, with what it lists TIED to the program's text (the seventh form; the later family's looks); each row that meets fmt, with fmt's text TOLD by the authors' own Lean function (tested against real Go, not proved from fmt's source: count such statements apart). THE CARD IS WHAT COUNTS. Prove the row's statement (the work); the ties are given (YtmoekkcdkjopgaaGreatDoorTie.lean); close each card by the builder's one call (the guide's Derived/Test/ToyasCard.lean, 'card_holds'). Laid BY PROGRAM, IN A SANDBOX (cutbox-door.mjs). By AI agents, Wed Nov 11 2026. No macro, syntax, notation, axiom, sorry.
-/
import Derived.Test.YtmoekkcdkjopgaaGreatDoorRows
import GoSem.ClaimSeven
namespace Go.Proofs.YtmoekkcdkjopgaaGreatDoor
namespace Rows

/-- THE TIED CARD OF 'fuguelaw22.StepSteps'. -/
def stepStepsCard : Claim7 := { stood := { row := stepStepsRow, standIns := [], harness := (true, "56759d3ea28ae732895687f94e58afa360807d84aa9b63d7f2471d17859befac"), looks := false }, kinds := [], alts := [], laidByText := true, laidKinds := [.data, .data, .data], laidTests := true, laidLooks := .later }
def StepStepsCardSaid : Prop := Claim7.holds Tryz.pinned (.plain (OpenSpec.ofChange stepStepsSpec)) stepStepsCard

/-- THE TIED CARD OF 'fuguelaw22.StepFuel'. -/
def stepFuelCard : Claim7 := { stood := { row := stepFuelRow, standIns := [], harness := (true, "56759d3ea28ae732895687f94e58afa360807d84aa9b63d7f2471d17859befac"), looks := false }, kinds := [], alts := [], laidByText := true, laidKinds := [.data, .data, .data], laidTests := true, laidLooks := .later }
def StepFuelCardSaid : Prop := Claim7.holds Tryz.pinned (.plain (OpenSpec.ofChange stepFuelSpec)) stepFuelCard

/-- THE TIED CARD OF 'fuguelaw22.StepOn'. -/
def stepOnCard : Claim7 := { stood := { row := stepOnRow, standIns := [], harness := (true, "56759d3ea28ae732895687f94e58afa360807d84aa9b63d7f2471d17859befac"), looks := false }, kinds := [], alts := [], laidByText := true, laidKinds := [.data, .data, .data], laidTests := true, laidLooks := .later }
def StepOnCardSaid : Prop := Claim7.holds Tryz.pinned (.plain (OpenSpec.ofChange stepOnSpec)) stepOnCard

/-- THE TIED CARD OF 'fuguelaw24.EraseSubsts'. -/
def eraseSubstsCard : Claim7 := { stood := { row := eraseSubstsRow, standIns := [], harness := (true, "56759d3ea28ae732895687f94e58afa360807d84aa9b63d7f2471d17859befac"), looks := false }, kinds := [], alts := [], laidByText := true, laidKinds := [.data, .data, .data], laidTests := true, laidLooks := .later }
def EraseSubstsCardSaid : Prop := Claim7.holds Tryz.pinned (.plain (OpenSpec.ofChange eraseSubstsSpec)) eraseSubstsCard

/-- THE TIED CARD OF 'fuguelaw24.EraseLets'. -/
def eraseLetsCard : Claim7 := { stood := { row := eraseLetsRow, standIns := [], harness := (true, "56759d3ea28ae732895687f94e58afa360807d84aa9b63d7f2471d17859befac"), looks := false }, kinds := [], alts := [], laidByText := true, laidKinds := [.data, .data, .data], laidTests := true, laidLooks := .later }
def EraseLetsCardSaid : Prop := Claim7.holds Tryz.pinned (.plain (OpenSpec.ofChange eraseLetsSpec)) eraseLetsCard

/-- THE SECOND FORM's CARD OF 'fuguelaw22.StepSteps'. -/
def stepStepsUptoCard : Claim7 := { stood := { row := stepStepsUptoRow, standIns := [], harness := (true, "56759d3ea28ae732895687f94e58afa360807d84aa9b63d7f2471d17859befac"), looks := false }, kinds := [], alts := [], laidByText := true, laidKinds := [.data, .data, .data], laidTests := true, laidLooks := .later }
def StepStepsUptoCardSaid : Prop := Claim7.holds Tryz.pinned (.plain (OpenSpec.upto stepStepsSpec)) stepStepsUptoCard

/-- THE SECOND FORM's CARD OF 'fuguelaw22.StepFuel'. -/
def stepFuelUptoCard : Claim7 := { stood := { row := stepFuelUptoRow, standIns := [], harness := (true, "56759d3ea28ae732895687f94e58afa360807d84aa9b63d7f2471d17859befac"), looks := false }, kinds := [], alts := [], laidByText := true, laidKinds := [.data, .data, .data], laidTests := true, laidLooks := .later }
def StepFuelUptoCardSaid : Prop := Claim7.holds Tryz.pinned (.plain (OpenSpec.upto stepFuelSpec)) stepFuelUptoCard

/-- THE SECOND FORM's CARD OF 'fuguelaw22.StepOn'. -/
def stepOnUptoCard : Claim7 := { stood := { row := stepOnUptoRow, standIns := [], harness := (true, "56759d3ea28ae732895687f94e58afa360807d84aa9b63d7f2471d17859befac"), looks := false }, kinds := [], alts := [], laidByText := true, laidKinds := [.data, .data, .data], laidTests := true, laidLooks := .later }
def StepOnUptoCardSaid : Prop := Claim7.holds Tryz.pinned (.plain (OpenSpec.upto stepOnSpec)) stepOnUptoCard

/-- THE SECOND FORM's CARD OF 'fuguelaw24.EraseSubsts'. -/
def eraseSubstsUptoCard : Claim7 := { stood := { row := eraseSubstsUptoRow, standIns := [], harness := (true, "56759d3ea28ae732895687f94e58afa360807d84aa9b63d7f2471d17859befac"), looks := false }, kinds := [], alts := [], laidByText := true, laidKinds := [.data, .data, .data], laidTests := true, laidLooks := .later }
def EraseSubstsUptoCardSaid : Prop := Claim7.holds Tryz.pinned (.plain (OpenSpec.upto eraseSubstsSpec)) eraseSubstsUptoCard

/-- THE SECOND FORM's CARD OF 'fuguelaw24.EraseLets'. -/
def eraseLetsUptoCard : Claim7 := { stood := { row := eraseLetsUptoRow, standIns := [], harness := (true, "56759d3ea28ae732895687f94e58afa360807d84aa9b63d7f2471d17859befac"), looks := false }, kinds := [], alts := [], laidByText := true, laidKinds := [.data, .data, .data], laidTests := true, laidLooks := .later }
def EraseLetsUptoCardSaid : Prop := Claim7.holds Tryz.pinned (.plain (OpenSpec.upto eraseLetsSpec)) eraseLetsUptoCard
end Rows
end Go.Proofs.YtmoekkcdkjopgaaGreatDoor
