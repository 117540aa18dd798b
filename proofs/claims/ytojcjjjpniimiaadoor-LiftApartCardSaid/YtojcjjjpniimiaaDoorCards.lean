/-
  DERIVED. GIVEN WITH THE SEED: THE CARDS: each row of YtojcjjjpniimiaaDoorRows.lean that lists a variable, with what it lists TIED to the program's text (the seventh form; the later family's looks); each row that meets fmt, with fmt's text TOLD by the authors' own Lean function (tested against real Go, not proved from fmt's source: count such statements apart). THE CARD IS WHAT COUNTS. Prove the row's statement (the work); the ties are given (YtojcjjjpniimiaaDoorTie.lean); close each card by the builder's one call (the guide's Derived/Test/ToyasCard.lean, 'card_holds'). Laid BY PROGRAM, IN A SANDBOX (cutbox-door.mjs). By AI agents, Wed Nov 11 2026. No macro, syntax, notation, axiom, sorry.
-/
import Derived.Test.YtojcjjjpniimiaaDoorRows
import GoSem.ClaimSeven
namespace Go.Proofs.YtojcjjjpniimiaaDoor
namespace Rows

/-- THE TIED CARD OF 'fuguelaw25.LiftChecks'. -/
def liftChecksCard : Claim7 := { stood := { row := liftChecksRow, standIns := [], harness := (true, "f64d0a9fa7e92ae6ef72ed62da4024f16ce37cdeaa73e192d7034ed1f978e9a3"), looks := false }, kinds := [], alts := [], laidByText := true, laidKinds := [.data, .data, .data], laidTests := true, laidLooks := .later }
def LiftChecksCardSaid : Prop := Claim7.holds Tryd.pinned (.plain (OpenSpec.ofChange liftChecksSpec)) liftChecksCard

/-- THE TIED CARD OF 'fuguelaw25.LiftSound'. -/
def liftSoundCard : Claim7 := { stood := { row := liftSoundRow, standIns := [], harness := (true, "f64d0a9fa7e92ae6ef72ed62da4024f16ce37cdeaa73e192d7034ed1f978e9a3"), looks := false }, kinds := [], alts := [], laidByText := true, laidKinds := [.data, .data, .data], laidTests := true, laidLooks := .later }
def LiftSoundCardSaid : Prop := Claim7.holds Tryd.pinned (.plain (OpenSpec.ofChange liftSoundSpec)) liftSoundCard

/-- THE TIED CARD OF 'fuguelaw25.LiftApart'. -/
def liftApartCard : Claim7 := { stood := { row := liftApartRow, standIns := [], harness := (true, "f64d0a9fa7e92ae6ef72ed62da4024f16ce37cdeaa73e192d7034ed1f978e9a3"), looks := false }, kinds := [], alts := [], laidByText := true, laidKinds := [.data, .data, .data], laidTests := true, laidLooks := .later }
def LiftApartCardSaid : Prop := Claim7.holds Tryd.pinned (.plain (OpenSpec.ofChange liftApartSpec)) liftApartCard

/-- THE TIED CARD OF 'fuguelaw25.LiftBack'. -/
def liftBackCard : Claim7 := { stood := { row := liftBackRow, standIns := [], harness := (true, "f64d0a9fa7e92ae6ef72ed62da4024f16ce37cdeaa73e192d7034ed1f978e9a3"), looks := false }, kinds := [], alts := [], laidByText := true, laidKinds := [.data, .data, .data], laidTests := true, laidLooks := .later }
def LiftBackCardSaid : Prop := Claim7.holds Tryd.pinned (.plain (OpenSpec.ofChange liftBackSpec)) liftBackCard

/-- THE SECOND FORM's CARD OF 'fuguelaw25.LiftChecks'. -/
def liftChecksUptoCard : Claim7 := { stood := { row := liftChecksUptoRow, standIns := [], harness := (true, "f64d0a9fa7e92ae6ef72ed62da4024f16ce37cdeaa73e192d7034ed1f978e9a3"), looks := false }, kinds := [], alts := [], laidByText := true, laidKinds := [.data, .data, .data], laidTests := true, laidLooks := .later }
def LiftChecksUptoCardSaid : Prop := Claim7.holds Tryd.pinned (.plain (OpenSpec.upto liftChecksSpec)) liftChecksUptoCard

/-- THE SECOND FORM's CARD OF 'fuguelaw25.LiftSound'. -/
def liftSoundUptoCard : Claim7 := { stood := { row := liftSoundUptoRow, standIns := [], harness := (true, "f64d0a9fa7e92ae6ef72ed62da4024f16ce37cdeaa73e192d7034ed1f978e9a3"), looks := false }, kinds := [], alts := [], laidByText := true, laidKinds := [.data, .data, .data], laidTests := true, laidLooks := .later }
def LiftSoundUptoCardSaid : Prop := Claim7.holds Tryd.pinned (.plain (OpenSpec.upto liftSoundSpec)) liftSoundUptoCard

/-- THE SECOND FORM's CARD OF 'fuguelaw25.LiftApart'. -/
def liftApartUptoCard : Claim7 := { stood := { row := liftApartUptoRow, standIns := [], harness := (true, "f64d0a9fa7e92ae6ef72ed62da4024f16ce37cdeaa73e192d7034ed1f978e9a3"), looks := false }, kinds := [], alts := [], laidByText := true, laidKinds := [.data, .data, .data], laidTests := true, laidLooks := .later }
def LiftApartUptoCardSaid : Prop := Claim7.holds Tryd.pinned (.plain (OpenSpec.upto liftApartSpec)) liftApartUptoCard

/-- THE SECOND FORM's CARD OF 'fuguelaw25.LiftBack'. -/
def liftBackUptoCard : Claim7 := { stood := { row := liftBackUptoRow, standIns := [], harness := (true, "f64d0a9fa7e92ae6ef72ed62da4024f16ce37cdeaa73e192d7034ed1f978e9a3"), looks := false }, kinds := [], alts := [], laidByText := true, laidKinds := [.data, .data, .data], laidTests := true, laidLooks := .later }
def LiftBackUptoCardSaid : Prop := Claim7.holds Tryd.pinned (.plain (OpenSpec.upto liftBackSpec)) liftBackUptoCard
end Rows
end Go.Proofs.YtojcjjjpniimiaaDoor
