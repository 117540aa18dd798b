/-
  DERIVED. GIVEN WITH THE SEED: THE CARDS: each row of YtglfogjcijokpaaGreatDoorRows.lean that lists a variable, with what it lists TIED to the program's text (the seventh form; the later family's looks); each row that meets fmt, with fmt's text TOLD by the authors' own Lean function (tested against real Go, not proved from fmt's source: count such statements apart). THE CARD IS WHAT COUNTS. Prove the row's statement (the work); the ties are given (YtglfogjcijokpaaGreatDoorTie.lean); close each card by the builder's one call (the guide's Derived/Test/ToyasCard.lean, 'card_holds'). Laid BY PROGRAM, IN A SANDBOX (cutbox-door.mjs). By AI agents, Wed Nov 11 2026. No macro, syntax, notation, axiom, sorry.
-/
import Derived.Test.YtglfogjcijokpaaGreatDoorRows
import GoSem.ClaimSeven
namespace Go.Proofs.YtglfogjcijokpaaGreatDoor
namespace Rows

/-- THE TIED CARD OF 'fuguelaw22.StepKeeps'. -/
def stepKeepsCard : Claim7 := { stood := { row := stepKeepsRow, standIns := [], harness := (true, "6ebf21afe3b7e687cb628f0191eafcd7ce56dd9308fd046576f7914058221a01"), looks := true }, kinds := [], alts := [], laidByText := true, laidKinds := [.data, .data, .data], laidTests := true, laidLooks := .later }
def StepKeepsCardSaid : Prop := Claim7.holds Tryz.pinned (.plain (OpenSpec.ofChange stepKeepsSpec)) stepKeepsCard

/-- THE TIED CARD OF 'fuguelaw24.EraseSteps'. -/
def eraseStepsCard : Claim7 := { stood := { row := eraseStepsRow, standIns := [], harness := (true, "6ebf21afe3b7e687cb628f0191eafcd7ce56dd9308fd046576f7914058221a01"), looks := true }, kinds := [], alts := [], laidByText := true, laidKinds := [.data, .data, .data], laidTests := true, laidLooks := .later }
def EraseStepsCardSaid : Prop := Claim7.holds Tryz.pinned (.plain (OpenSpec.ofChange eraseStepsSpec)) eraseStepsCard

/-- THE SECOND FORM's CARD OF 'fuguelaw22.StepKeeps'. -/
def stepKeepsUptoCard : Claim7 := { stood := { row := stepKeepsUptoRow, standIns := [], harness := (true, "6ebf21afe3b7e687cb628f0191eafcd7ce56dd9308fd046576f7914058221a01"), looks := true }, kinds := [], alts := [], laidByText := true, laidKinds := [.data, .data, .data], laidTests := true, laidLooks := .later }
def StepKeepsUptoCardSaid : Prop := Claim7.holds Tryz.pinned (.plain (OpenSpec.upto stepKeepsSpec)) stepKeepsUptoCard

/-- THE SECOND FORM's CARD OF 'fuguelaw24.EraseSteps'. -/
def eraseStepsUptoCard : Claim7 := { stood := { row := eraseStepsUptoRow, standIns := [], harness := (true, "6ebf21afe3b7e687cb628f0191eafcd7ce56dd9308fd046576f7914058221a01"), looks := true }, kinds := [], alts := [], laidByText := true, laidKinds := [.data, .data, .data], laidTests := true, laidLooks := .later }
def EraseStepsUptoCardSaid : Prop := Claim7.holds Tryz.pinned (.plain (OpenSpec.upto eraseStepsSpec)) eraseStepsUptoCard
end Rows
end Go.Proofs.YtglfogjcijokpaaGreatDoor
