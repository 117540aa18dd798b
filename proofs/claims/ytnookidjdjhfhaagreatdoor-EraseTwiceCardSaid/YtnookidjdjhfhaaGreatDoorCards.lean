/-
  DERIVED. GIVEN WITH THE SEED: THE CARDS: each row of YtnookidjdjhfhaaGreatDoorRows.lean that lists a variable, with what it lists TIED to the program's text (the seventh form; the later family's looks); each row that meets fmt, with fmt's text TOLD by the authors' own Lean function (tested against real Go, not proved from fmt's source: count such statements apart). THE CARD IS WHAT COUNTS. Prove the row's statement (the work); the ties are given (YtnookidjdjhfhaaGreatDoorTie.lean); close each card by the builder's one call (the guide's Derived/Test/ToyasCard.lean, 'card_holds'). Laid BY PROGRAM, IN A SANDBOX (cutbox-door.mjs). By AI agents, Wed Nov 11 2026. No macro, syntax, notation, axiom, sorry.
-/
import Derived.Test.YtnookidjdjhfhaaGreatDoorRows
import GoSem.ClaimSeven
namespace Go.Proofs.YtnookidjdjhfhaaGreatDoor
namespace Rows

/-- THE TIED CARD OF 'fuguelaw24.EraseTells'. -/
def eraseTellsCard : Claim7 := { stood := { row := eraseTellsRow, standIns := [], harness := (true, "b5ddbea6cda96c276434f2ffd47a056995f21e635b0f8de8abd8bf06b372b029"), looks := false }, kinds := [], alts := [], laidByText := true, laidKinds := [.data, .data, .data], laidTests := true, laidLooks := .later }
def EraseTellsCardSaid : Prop := Claim7.holds Tryz.pinned (.plain (OpenSpec.ofChange eraseTellsSpec)) eraseTellsCard

/-- THE TIED CARD OF 'fuguelaw24.EraseTwice'. -/
def eraseTwiceCard : Claim7 := { stood := { row := eraseTwiceRow, standIns := [], harness := (true, "b5ddbea6cda96c276434f2ffd47a056995f21e635b0f8de8abd8bf06b372b029"), looks := false }, kinds := [], alts := [], laidByText := true, laidKinds := [.data, .data, .data], laidTests := true, laidLooks := .later }
def EraseTwiceCardSaid : Prop := Claim7.holds Tryz.pinned (.plain (OpenSpec.ofChange eraseTwiceSpec)) eraseTwiceCard

/-- THE SECOND FORM's CARD OF 'fuguelaw24.EraseTells'. -/
def eraseTellsUptoCard : Claim7 := { stood := { row := eraseTellsUptoRow, standIns := [], harness := (true, "b5ddbea6cda96c276434f2ffd47a056995f21e635b0f8de8abd8bf06b372b029"), looks := false }, kinds := [], alts := [], laidByText := true, laidKinds := [.data, .data, .data], laidTests := true, laidLooks := .later }
def EraseTellsUptoCardSaid : Prop := Claim7.holds Tryz.pinned (.plain (OpenSpec.upto eraseTellsSpec)) eraseTellsUptoCard

/-- THE SECOND FORM's CARD OF 'fuguelaw24.EraseTwice'. -/
def eraseTwiceUptoCard : Claim7 := { stood := { row := eraseTwiceUptoRow, standIns := [], harness := (true, "b5ddbea6cda96c276434f2ffd47a056995f21e635b0f8de8abd8bf06b372b029"), looks := false }, kinds := [], alts := [], laidByText := true, laidKinds := [.data, .data, .data], laidTests := true, laidLooks := .later }
def EraseTwiceUptoCardSaid : Prop := Claim7.holds Tryz.pinned (.plain (OpenSpec.upto eraseTwiceSpec)) eraseTwiceUptoCard
end Rows
end Go.Proofs.YtnookidjdjhfhaaGreatDoor
