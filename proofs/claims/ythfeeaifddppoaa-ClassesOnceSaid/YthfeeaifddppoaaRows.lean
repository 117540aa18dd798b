/-
  No cell of these rows narrows 'for every input' (looked for: loops, veiled, ifaces, maps, wideKeys, modest, calm, conditions, laid).
  DERIVED. THE GIVEN ROWS OF THIS SEAT. 5 by the template 'for every input the law returns true; each argument reads behind the call as it read before'; 0 by the template 'total and deterministic' (their statements: YthfeeaifddppoaaTotals.lean).
  GIVEN WITH THE SEED: the statements are not yours to turn. If you find one false, say at which input.
  Laid BY PROGRAM, IN A SANDBOX (cutbox-rows.mjs): the forced cells as the released guide's own fill.sh prints them over the translation 045f5a12bfb63caf… (all of the seat's roots in one cut). By AI agents, Wed Nov 11 2026. No macro, syntax, notation, axiom, sorry.
-/
import Derived.Test.YthfeeaifddppoaaChecked
import GoSem.Claim
import GoSem.ClaimJoined
import GoSem.ClaimMapViews
import Derived.JoinedTies
import Derived.KernelRfl
namespace Go.Proofs.Ythfeeaifddppoaa
/- THE CELL 'sum', in the pinned program and in every row, IS THE sha256 OF THE DUMP (.gsa) THAT YthfeeaifddppoaaProg.lean LOADS. Nothing in Lean hashes anything: it is a label: what it is worth is what the hold of that sum in a sandbox is worth. -/
noncomputable def Try.pinned : Pinned := { name := "ythfeeaifddppoaa", sum := "045f5a12bfb63cafce6235ad674107bb76b82e02b592f4f85debe85e66fe33a4", checked := Try.checked }
namespace Rows
def none {H : Type} : Left H := { results := [], args := [] }

/-- 'fuguelaw11.ClassesRefuses': WHATEVER THE INPUT: true; the input reads as it did. -/
def classesRefusesSpec : ChangeSpec := { name := "classesRefuses", fn := fun _ => fun
  | [d] => { results := [.lit (.bool true)], args := [d] }
  | _ => none }
def classesRefusesRow : OpenClaim := { program := "ythfeeaifddppoaa", sum := "045f5a12bfb63cafce6235ad674107bb76b82e02b592f4f85debe85e66fe33a4", func := "fugue/fuguelaw11.ClassesRefuses", spec := "classesRefuses", unfollowed := true, recurses := true, apart := false }
def ClassesRefusesSaid : Prop := classesRefusesRow.holds Try.pinned (OpenSpec.ofChange classesRefusesSpec)

/-- ITS FALSE NEIGHBOUR: 'it returns false'. Refute it at one input. -/
def classesRefusesWrong : ChangeSpec := { name := "classesRefuses", fn := fun _ => fun
  | [d] => { results := [.lit (.bool false)], args := [d] }
  | _ => none }
def ClassesRefusesWrongFalsely : Prop := classesRefusesRow.holds Try.pinned (OpenSpec.ofChange classesRefusesWrong)

/-- 'fuguelaw11.ClassesTurned': WHATEVER THE INPUT: true; the input reads as it did. -/
def classesTurnedSpec : ChangeSpec := { name := "classesTurned", fn := fun _ => fun
  | [d1, d2, d3, d4] => { results := [.lit (.bool true)], args := [d1, d2, d3, d4] }
  | _ => none }
def classesTurnedRow : OpenClaim := { program := "ythfeeaifddppoaa", sum := "045f5a12bfb63cafce6235ad674107bb76b82e02b592f4f85debe85e66fe33a4", func := "fugue/fuguelaw11.ClassesTurned", spec := "classesTurned", unfollowed := true, recurses := true, apart := false }
def ClassesTurnedSaid : Prop := classesTurnedRow.holds Try.pinned (OpenSpec.ofChange classesTurnedSpec)

/-- ITS FALSE NEIGHBOUR: 'it returns false'. Refute it at one input. -/
def classesTurnedWrong : ChangeSpec := { name := "classesTurned", fn := fun _ => fun
  | [d1, d2, d3, d4] => { results := [.lit (.bool false)], args := [d1, d2, d3, d4] }
  | _ => none }
def ClassesTurnedWrongFalsely : Prop := classesTurnedRow.holds Try.pinned (OpenSpec.ofChange classesTurnedWrong)

/-- 'fuguelaw11.ClassesOnce': WHATEVER THE INPUT: true; the input reads as it did. -/
def classesOnceSpec : ChangeSpec := { name := "classesOnce", fn := fun _ => fun
  | [d1, d2, d3] => { results := [.lit (.bool true)], args := [d1, d2, d3] }
  | _ => none }
def classesOnceRow : OpenClaim := { program := "ythfeeaifddppoaa", sum := "045f5a12bfb63cafce6235ad674107bb76b82e02b592f4f85debe85e66fe33a4", func := "fugue/fuguelaw11.ClassesOnce", spec := "classesOnce", unfollowed := true, recurses := true, apart := false }
def ClassesOnceSaid : Prop := classesOnceRow.holds Try.pinned (OpenSpec.ofChange classesOnceSpec)

/-- ITS FALSE NEIGHBOUR: 'it returns false'. Refute it at one input. -/
def classesOnceWrong : ChangeSpec := { name := "classesOnce", fn := fun _ => fun
  | [d1, d2, d3] => { results := [.lit (.bool false)], args := [d1, d2, d3] }
  | _ => none }
def ClassesOnceWrongFalsely : Prop := classesOnceRow.holds Try.pinned (OpenSpec.ofChange classesOnceWrong)

/-- 'fuguelaw11.ClassesTells': WHATEVER THE INPUT: true; the input reads as it did. -/
def classesTellsSpec : ChangeSpec := { name := "classesTells", fn := fun _ => fun
  | [d1, d2, d3, d4] => { results := [.lit (.bool true)], args := [d1, d2, d3, d4] }
  | _ => none }
def classesTellsRow : OpenClaim := { program := "ythfeeaifddppoaa", sum := "045f5a12bfb63cafce6235ad674107bb76b82e02b592f4f85debe85e66fe33a4", func := "fugue/fuguelaw11.ClassesTells", spec := "classesTells", unfollowed := true, recurses := true, apart := false }
def ClassesTellsSaid : Prop := classesTellsRow.holds Try.pinned (OpenSpec.ofChange classesTellsSpec)

/-- ITS FALSE NEIGHBOUR: 'it returns false'. Refute it at one input. -/
def classesTellsWrong : ChangeSpec := { name := "classesTells", fn := fun _ => fun
  | [d1, d2, d3, d4] => { results := [.lit (.bool false)], args := [d1, d2, d3, d4] }
  | _ => none }
def ClassesTellsWrongFalsely : Prop := classesTellsRow.holds Try.pinned (OpenSpec.ofChange classesTellsWrong)

/-- 'fuguelaw11.ClassesWays': WHATEVER THE INPUT: true; the input reads as it did. -/
def classesWaysSpec : ChangeSpec := { name := "classesWays", fn := fun _ => fun
  | [d1, d2, d3, d4] => { results := [.lit (.bool true)], args := [d1, d2, d3, d4] }
  | _ => none }
def classesWaysRow : OpenClaim := { program := "ythfeeaifddppoaa", sum := "045f5a12bfb63cafce6235ad674107bb76b82e02b592f4f85debe85e66fe33a4", func := "fugue/fuguelaw11.ClassesWays", spec := "classesWays", unfollowed := true, recurses := true, apart := false }
def ClassesWaysSaid : Prop := classesWaysRow.holds Try.pinned (OpenSpec.ofChange classesWaysSpec)

/-- ITS FALSE NEIGHBOUR: 'it returns false'. Refute it at one input. -/
def classesWaysWrong : ChangeSpec := { name := "classesWays", fn := fun _ => fun
  | [d1, d2, d3, d4] => { results := [.lit (.bool false)], args := [d1, d2, d3, d4] }
  | _ => none }
def ClassesWaysWrongFalsely : Prop := classesWaysRow.holds Try.pinned (OpenSpec.ofChange classesWaysWrong)

/- THE SECOND FORM. 'bulk': how many values and letters a reading holds, each counted each time it is reached (what is shared counts as often as it is met; a slice's spare places count too). A statement '..UptoSaid' is the law's where the arguments, and the package variables that the reading takes, are together of bulk at most 1048576: NARROWER than '..Said'. Prove '..Said' where nothing that the law and all that it calls make is longer than what came in: it says more and counts as full. Else prove '..UptoSaid'. A law counts once. -/
mutual
def uptoBulk {H : Type} : DataW H → Nat
  | .lit (.string bytes) => bytes.length + 1
  | .lit _ => 1
  | .nil => 1
  | .ptr d => uptoBulk d + 1
  | .slice elems spare => uptoBulkAll elems + uptoBulkAll spare + 1
  | .agg parts => uptoBulkAll parts + 1
  | .iface _ d => uptoBulk d + 1
  | .map entries => uptoBulkEntries entries + 1
  | .held _ => 1
def uptoBulkAll {H : Type} : List (DataW H) → Nat
  | [] => 0
  | d :: r => uptoBulk d + uptoBulkAll r
def uptoBulkEntries {H : Type} : List (Lit × DataW H) → Nat
  | [] => 0
  | x :: r => uptoBulkEntry x + uptoBulkEntries r
def uptoBulkEntry {H : Type} : Lit × DataW H → Nat
  | (.string bytes, d) => bytes.length + uptoBulk d + 1
  | (_, d) => uptoBulk d + 1
 end
def uptoSmall : (H : Type) → List (DataW H) → Bool := fun _ ds => decide (uptoBulkAll ds ≤ 1048576)
def OpenSpec.upto (s : _root_.Go.ChangeSpec) : _root_.Go.OpenSpec := { _root_.Go.OpenSpec.ofChange s with cond := some uptoSmall }

/-- 'fuguelaw11.ClassesRefuses', WHERE WHAT IT READS IS OF BULK AT MOST 1048576: true; the input reads as it did. -/
def classesRefusesUptoRow : OpenClaim := { program := "ythfeeaifddppoaa", sum := "045f5a12bfb63cafce6235ad674107bb76b82e02b592f4f85debe85e66fe33a4", func := "fugue/fuguelaw11.ClassesRefuses", spec := "classesRefuses", unfollowed := true, recurses := true, apart := false, narrowed := true }
def ClassesRefusesUptoSaid : Prop := classesRefusesUptoRow.holds Try.pinned (OpenSpec.upto classesRefusesSpec)

/-- 'fuguelaw11.ClassesTurned', WHERE WHAT IT READS IS OF BULK AT MOST 1048576: true; the input reads as it did. -/
def classesTurnedUptoRow : OpenClaim := { program := "ythfeeaifddppoaa", sum := "045f5a12bfb63cafce6235ad674107bb76b82e02b592f4f85debe85e66fe33a4", func := "fugue/fuguelaw11.ClassesTurned", spec := "classesTurned", unfollowed := true, recurses := true, apart := false, narrowed := true }
def ClassesTurnedUptoSaid : Prop := classesTurnedUptoRow.holds Try.pinned (OpenSpec.upto classesTurnedSpec)

/-- 'fuguelaw11.ClassesOnce', WHERE WHAT IT READS IS OF BULK AT MOST 1048576: true; the input reads as it did. -/
def classesOnceUptoRow : OpenClaim := { program := "ythfeeaifddppoaa", sum := "045f5a12bfb63cafce6235ad674107bb76b82e02b592f4f85debe85e66fe33a4", func := "fugue/fuguelaw11.ClassesOnce", spec := "classesOnce", unfollowed := true, recurses := true, apart := false, narrowed := true }
def ClassesOnceUptoSaid : Prop := classesOnceUptoRow.holds Try.pinned (OpenSpec.upto classesOnceSpec)

/-- 'fuguelaw11.ClassesTells', WHERE WHAT IT READS IS OF BULK AT MOST 1048576: true; the input reads as it did. -/
def classesTellsUptoRow : OpenClaim := { program := "ythfeeaifddppoaa", sum := "045f5a12bfb63cafce6235ad674107bb76b82e02b592f4f85debe85e66fe33a4", func := "fugue/fuguelaw11.ClassesTells", spec := "classesTells", unfollowed := true, recurses := true, apart := false, narrowed := true }
def ClassesTellsUptoSaid : Prop := classesTellsUptoRow.holds Try.pinned (OpenSpec.upto classesTellsSpec)

/-- 'fuguelaw11.ClassesWays', WHERE WHAT IT READS IS OF BULK AT MOST 1048576: true; the input reads as it did. -/
def classesWaysUptoRow : OpenClaim := { program := "ythfeeaifddppoaa", sum := "045f5a12bfb63cafce6235ad674107bb76b82e02b592f4f85debe85e66fe33a4", func := "fugue/fuguelaw11.ClassesWays", spec := "classesWays", unfollowed := true, recurses := true, apart := false, narrowed := true }
def ClassesWaysUptoSaid : Prop := classesWaysUptoRow.holds Try.pinned (OpenSpec.upto classesWaysSpec)

end Rows
end Go.Proofs.Ythfeeaifddppoaa
