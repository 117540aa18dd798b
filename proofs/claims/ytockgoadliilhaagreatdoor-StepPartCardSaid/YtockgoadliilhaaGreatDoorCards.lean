/-
  DERIVED. GIVEN WITH THE SEED: THE CARDS: each row of YtockgoadliilhaaGreatDoorRows.lean that lists a variable, with what it lists TIED to the program's text (the seventh form; the later family's looks); each row that meets fmt, with fmt's text TOLD by the authors' own Lean function (tested against real Go, not proved from fmt's source: count such statements apart). THE CARD IS WHAT COUNTS. Prove the row's statement (the work); the ties are given (YtockgoadliilhaaGreatDoorTie.lean); close each card by the builder's one call (the guide's Derived/Test/ToyasCard.lean, 'card_holds'). Laid BY PROGRAM, IN A SANDBOX (cutbox-door.mjs). By AI agents, Wed Nov 11 2026. No macro, syntax, notation, axiom, sorry.
-/
import Derived.Test.YtockgoadliilhaaGreatDoorRows
import GoSem.ClaimSeven
namespace Go.Proofs.YtockgoadliilhaaGreatDoor
namespace Rows

/-- THE TIED CARD OF 'fuguelaw22.StepSteps'. -/
def stepStepsCard : Claim7 := { stood := { row := stepStepsRow, standIns := [], harness := (true, "9d411a38d5235b230fa7c5b33de9c5d12e9a836355931af45be828b1ad023e12"), looks := false }, kinds := [], alts := [], laidByText := true, laidKinds := [.data, .data, .data], laidTests := true, laidLooks := .later }
def StepStepsCardSaid : Prop := Claim7.holds Tryz.pinned (.plain (OpenSpec.ofChange stepStepsSpec)) stepStepsCard

/-- THE TIED CARD OF 'fuguelaw22.StepNames'. -/
def stepNamesCard : Claim7 := { stood := { row := stepNamesRow, standIns := [], harness := (true, "9d411a38d5235b230fa7c5b33de9c5d12e9a836355931af45be828b1ad023e12"), looks := false }, kinds := [], alts := [], laidByText := true, laidKinds := [.data, .data, .data], laidTests := true, laidLooks := .later }
def StepNamesCardSaid : Prop := Claim7.holds Tryz.pinned (.plain (OpenSpec.ofChange stepNamesSpec)) stepNamesCard

/-- THE TIED CARD OF 'fuguelaw22.StepPart'. -/
def stepPartCard : Claim7 := { stood := { row := stepPartRow, standIns := [], harness := (true, "9d411a38d5235b230fa7c5b33de9c5d12e9a836355931af45be828b1ad023e12"), looks := false }, kinds := [], alts := [], laidByText := true, laidKinds := [.data, .data, .data], laidTests := true, laidLooks := .later }
def StepPartCardSaid : Prop := Claim7.holds Tryz.pinned (.plain (OpenSpec.ofChange stepPartSpec)) stepPartCard

/-- THE SECOND FORM's CARD OF 'fuguelaw22.StepSteps'. -/
def stepStepsUptoCard : Claim7 := { stood := { row := stepStepsUptoRow, standIns := [], harness := (true, "9d411a38d5235b230fa7c5b33de9c5d12e9a836355931af45be828b1ad023e12"), looks := false }, kinds := [], alts := [], laidByText := true, laidKinds := [.data, .data, .data], laidTests := true, laidLooks := .later }
def StepStepsUptoCardSaid : Prop := Claim7.holds Tryz.pinned (.plain (OpenSpec.upto stepStepsSpec)) stepStepsUptoCard

/-- THE SECOND FORM's CARD OF 'fuguelaw22.StepNames'. -/
def stepNamesUptoCard : Claim7 := { stood := { row := stepNamesUptoRow, standIns := [], harness := (true, "9d411a38d5235b230fa7c5b33de9c5d12e9a836355931af45be828b1ad023e12"), looks := false }, kinds := [], alts := [], laidByText := true, laidKinds := [.data, .data, .data], laidTests := true, laidLooks := .later }
def StepNamesUptoCardSaid : Prop := Claim7.holds Tryz.pinned (.plain (OpenSpec.upto stepNamesSpec)) stepNamesUptoCard

/-- THE SECOND FORM's CARD OF 'fuguelaw22.StepPart'. -/
def stepPartUptoCard : Claim7 := { stood := { row := stepPartUptoRow, standIns := [], harness := (true, "9d411a38d5235b230fa7c5b33de9c5d12e9a836355931af45be828b1ad023e12"), looks := false }, kinds := [], alts := [], laidByText := true, laidKinds := [.data, .data, .data], laidTests := true, laidLooks := .later }
def StepPartUptoCardSaid : Prop := Claim7.holds Tryz.pinned (.plain (OpenSpec.upto stepPartSpec)) stepPartUptoCard
end Rows
end Go.Proofs.YtockgoadliilhaaGreatDoor
