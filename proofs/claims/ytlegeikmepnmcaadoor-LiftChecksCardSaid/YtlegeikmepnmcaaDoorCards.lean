/-
  DERIVED. GIVEN WITH THE SEED: THE CARDS: each row of YtlegeikmepnmcaaDoorRows.lean that lists a variable, with what it lists TIED to the program's text (the seventh form; the later family's looks); each row that meets fmt, with fmt's text TOLD by the authors' own Lean function (tested against real Go, not proved from fmt's source: count such statements apart). THE CARD IS WHAT COUNTS. Prove the row's statement (the work); the ties are given (YtlegeikmepnmcaaDoorTie.lean); close each card by the builder's one call (the guide's Derived/Test/ToyasCard.lean, 'card_holds'). Laid BY PROGRAM, IN A SANDBOX (cutbox-door.mjs). By AI agents, Wed Nov 11 2026. No macro, syntax, notation, axiom, sorry.
-/
import Derived.Test.YtlegeikmepnmcaaDoorRows
import GoSem.ClaimSeven
namespace Go.Proofs.YtlegeikmepnmcaaDoor
namespace Rows

/-- THE TIED CARD OF 'fuguelaw25.LiftChecks'. -/
def liftChecksCard : Claim7 := { stood := { row := liftChecksRow, standIns := [], harness := (true, "b2c7159c94ab231dba4ba8e5127b8ed493c3929850cb4ac4fba222e17b06fb41"), looks := false }, kinds := [], alts := [], laidByText := true, laidKinds := [.data, .data, .data], laidTests := true, laidLooks := .later }
def LiftChecksCardSaid : Prop := Claim7.holds Tryd.pinned (.plain (OpenSpec.ofChange liftChecksSpec)) liftChecksCard

/-- THE TIED CARD OF 'fuguelaw25.LiftSound'. -/
def liftSoundCard : Claim7 := { stood := { row := liftSoundRow, standIns := [], harness := (true, "b2c7159c94ab231dba4ba8e5127b8ed493c3929850cb4ac4fba222e17b06fb41"), looks := false }, kinds := [], alts := [], laidByText := true, laidKinds := [.data, .data, .data], laidTests := true, laidLooks := .later }
def LiftSoundCardSaid : Prop := Claim7.holds Tryd.pinned (.plain (OpenSpec.ofChange liftSoundSpec)) liftSoundCard

/-- THE SECOND FORM's CARD OF 'fuguelaw25.LiftChecks'. -/
def liftChecksUptoCard : Claim7 := { stood := { row := liftChecksUptoRow, standIns := [], harness := (true, "b2c7159c94ab231dba4ba8e5127b8ed493c3929850cb4ac4fba222e17b06fb41"), looks := false }, kinds := [], alts := [], laidByText := true, laidKinds := [.data, .data, .data], laidTests := true, laidLooks := .later }
def LiftChecksUptoCardSaid : Prop := Claim7.holds Tryd.pinned (.plain (OpenSpec.upto liftChecksSpec)) liftChecksUptoCard

/-- THE SECOND FORM's CARD OF 'fuguelaw25.LiftSound'. -/
def liftSoundUptoCard : Claim7 := { stood := { row := liftSoundUptoRow, standIns := [], harness := (true, "b2c7159c94ab231dba4ba8e5127b8ed493c3929850cb4ac4fba222e17b06fb41"), looks := false }, kinds := [], alts := [], laidByText := true, laidKinds := [.data, .data, .data], laidTests := true, laidLooks := .later }
def LiftSoundUptoCardSaid : Prop := Claim7.holds Tryd.pinned (.plain (OpenSpec.upto liftSoundSpec)) liftSoundUptoCard
end Rows
end Go.Proofs.YtlegeikmepnmcaaDoor
