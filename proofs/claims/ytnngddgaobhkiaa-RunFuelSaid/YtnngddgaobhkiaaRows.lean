/-
  No cell of these rows narrows 'for every input' (looked for: loops, veiled, ifaces, maps, wideKeys, modest, calm, conditions, laid).
  DERIVED. THE GIVEN ROWS OF THIS SEAT. 4 by the template 'for every input the law returns true; each argument reads behind the call as it read before'; 0 by the template 'total and deterministic' (their statements: YtnngddgaobhkiaaTotals.lean).
  GIVEN WITH THE SEED: the statements are not yours to turn. If you find one false, say at which input.
  Laid BY PROGRAM, IN A SANDBOX (cutbox-rows.mjs): the forced cells as the released guide's own fill.sh prints them over the translation 57aec0ece2404ce3… (all of the seat's roots in one cut). By AI agents, Wed Nov 11 2026. No macro, syntax, notation, axiom, sorry.
-/
import Derived.Test.YtnngddgaobhkiaaChecked
import GoSem.Claim
import GoSem.ClaimJoined
import GoSem.ClaimMapViews
import Derived.JoinedTies
import Derived.KernelRfl
namespace Go.Proofs.Ytnngddgaobhkiaa
/- THE CELL 'sum', in the pinned program and in every row, IS THE sha256 OF THE DUMP (.gsa) THAT YtnngddgaobhkiaaProg.lean LOADS. Nothing in Lean hashes anything: it is a label: what it is worth is what the hold of that sum in a sandbox is worth. -/
noncomputable def Try.pinned : Pinned := { name := "ytnngddgaobhkiaa", sum := "57aec0ece2404ce3cd02da338370f92f66c54cb4beb5d326459c7f5d810d8a36", checked := Try.checked }
namespace Rows
def none {H : Type} : Left H := { results := [], args := [] }

/-- 'penancelaw8.RunLast': WHATEVER THE INPUT: true; the input reads as it did. -/
def runLastSpec : ChangeSpec := { name := "runLast", fn := fun _ => fun
  | [d1, d2, d3] => { results := [.lit (.bool true)], args := [d1, d2, d3] }
  | _ => none }
def runLastRow : OpenClaim := { program := "ytnngddgaobhkiaa", sum := "57aec0ece2404ce3cd02da338370f92f66c54cb4beb5d326459c7f5d810d8a36", func := "penance/penancelaw8.RunLast", spec := "runLast", unfollowed := true, recurses := true, apart := false }
def RunLastSaid : Prop := runLastRow.holds Try.pinned (OpenSpec.ofChange runLastSpec)

/-- ITS FALSE NEIGHBOUR: 'it returns false'. Refute it at one input. -/
def runLastWrong : ChangeSpec := { name := "runLast", fn := fun _ => fun
  | [d1, d2, d3] => { results := [.lit (.bool false)], args := [d1, d2, d3] }
  | _ => none }
def RunLastWrongFalsely : Prop := runLastRow.holds Try.pinned (OpenSpec.ofChange runLastWrong)

/-- 'penancelaw8.RunFuel': WHATEVER THE INPUT: true; the input reads as it did. -/
def runFuelSpec : ChangeSpec := { name := "runFuel", fn := fun _ => fun
  | [d1, d2] => { results := [.lit (.bool true)], args := [d1, d2] }
  | _ => none }
def runFuelRow : OpenClaim := { program := "ytnngddgaobhkiaa", sum := "57aec0ece2404ce3cd02da338370f92f66c54cb4beb5d326459c7f5d810d8a36", func := "penance/penancelaw8.RunFuel", spec := "runFuel", unfollowed := true, recurses := true, apart := false }
def RunFuelSaid : Prop := runFuelRow.holds Try.pinned (OpenSpec.ofChange runFuelSpec)

/-- ITS FALSE NEIGHBOUR: 'it returns false'. Refute it at one input. -/
def runFuelWrong : ChangeSpec := { name := "runFuel", fn := fun _ => fun
  | [d1, d2] => { results := [.lit (.bool false)], args := [d1, d2] }
  | _ => none }
def RunFuelWrongFalsely : Prop := runFuelRow.holds Try.pinned (OpenSpec.ofChange runFuelWrong)

/-- 'penancelaw8.RunExit': WHATEVER THE INPUT: true; the input reads as it did. -/
def runExitSpec : ChangeSpec := { name := "runExit", fn := fun _ => fun
  | [d1, d2, d3] => { results := [.lit (.bool true)], args := [d1, d2, d3] }
  | _ => none }
def runExitRow : OpenClaim := { program := "ytnngddgaobhkiaa", sum := "57aec0ece2404ce3cd02da338370f92f66c54cb4beb5d326459c7f5d810d8a36", func := "penance/penancelaw8.RunExit", spec := "runExit", unfollowed := true, recurses := true, apart := false }
def RunExitSaid : Prop := runExitRow.holds Try.pinned (OpenSpec.ofChange runExitSpec)

/-- ITS FALSE NEIGHBOUR: 'it returns false'. Refute it at one input. -/
def runExitWrong : ChangeSpec := { name := "runExit", fn := fun _ => fun
  | [d1, d2, d3] => { results := [.lit (.bool false)], args := [d1, d2, d3] }
  | _ => none }
def RunExitWrongFalsely : Prop := runExitRow.holds Try.pinned (OpenSpec.ofChange runExitWrong)

/-- 'penancelaw8.RunSide': WHATEVER THE INPUT: true; the input reads as it did. -/
def runSideSpec : ChangeSpec := { name := "runSide", fn := fun _ => fun
  | [d1, d2] => { results := [.lit (.bool true)], args := [d1, d2] }
  | _ => none }
def runSideRow : OpenClaim := { program := "ytnngddgaobhkiaa", sum := "57aec0ece2404ce3cd02da338370f92f66c54cb4beb5d326459c7f5d810d8a36", func := "penance/penancelaw8.RunSide", spec := "runSide", unfollowed := true, recurses := true, apart := false }
def RunSideSaid : Prop := runSideRow.holds Try.pinned (OpenSpec.ofChange runSideSpec)

/-- ITS FALSE NEIGHBOUR: 'it returns false'. Refute it at one input. -/
def runSideWrong : ChangeSpec := { name := "runSide", fn := fun _ => fun
  | [d1, d2] => { results := [.lit (.bool false)], args := [d1, d2] }
  | _ => none }
def RunSideWrongFalsely : Prop := runSideRow.holds Try.pinned (OpenSpec.ofChange runSideWrong)

/- THE SECOND FORM. 'bulk': how many values and letters a reading holds, each counted each time it is reached (what is shared counts as often as it is met; a slice's spare places count too). A statement '..UptoSaid' is the law's where the arguments, and the package variables that the reading takes, are together of bulk at most 1048576: NARROWER than '..Said'. Prove '..Said' where nothing that the law and all that it calls make is longer than what came in: it says more and counts as full. Else prove '..UptoSaid'. A law counts once. -/
mutual
def uptoBulk {H : Type} : DataW H → Nat
  | .lit (.string bytes) => bytes.length + 1
  | .lit _ => 1
  | .nil => 1
  | .ptr d => uptoBulk d + 1
  | .slice elems spare => uptoBulkAll elems + uptoBulkAll spare + 1
  | .agg parts => uptoBulkAll parts + 1
  | .iface _ d => uptoBulk d + 1
  | .map entries => uptoBulkEntries entries + 1
  | .held _ => 1
def uptoBulkAll {H : Type} : List (DataW H) → Nat
  | [] => 0
  | d :: r => uptoBulk d + uptoBulkAll r
def uptoBulkEntries {H : Type} : List (Lit × DataW H) → Nat
  | [] => 0
  | x :: r => uptoBulkEntry x + uptoBulkEntries r
def uptoBulkEntry {H : Type} : Lit × DataW H → Nat
  | (.string bytes, d) => bytes.length + uptoBulk d + 1
  | (_, d) => uptoBulk d + 1
 end
def uptoSmall : (H : Type) → List (DataW H) → Bool := fun _ ds => decide (uptoBulkAll ds ≤ 1048576)
def OpenSpec.upto (s : _root_.Go.ChangeSpec) : _root_.Go.OpenSpec := { _root_.Go.OpenSpec.ofChange s with cond := some uptoSmall }

/-- 'penancelaw8.RunLast', WHERE WHAT IT READS IS OF BULK AT MOST 1048576: true; the input reads as it did. -/
def runLastUptoRow : OpenClaim := { program := "ytnngddgaobhkiaa", sum := "57aec0ece2404ce3cd02da338370f92f66c54cb4beb5d326459c7f5d810d8a36", func := "penance/penancelaw8.RunLast", spec := "runLast", unfollowed := true, recurses := true, apart := false, narrowed := true }
def RunLastUptoSaid : Prop := runLastUptoRow.holds Try.pinned (OpenSpec.upto runLastSpec)

/-- 'penancelaw8.RunFuel', WHERE WHAT IT READS IS OF BULK AT MOST 1048576: true; the input reads as it did. -/
def runFuelUptoRow : OpenClaim := { program := "ytnngddgaobhkiaa", sum := "57aec0ece2404ce3cd02da338370f92f66c54cb4beb5d326459c7f5d810d8a36", func := "penance/penancelaw8.RunFuel", spec := "runFuel", unfollowed := true, recurses := true, apart := false, narrowed := true }
def RunFuelUptoSaid : Prop := runFuelUptoRow.holds Try.pinned (OpenSpec.upto runFuelSpec)

/-- 'penancelaw8.RunExit', WHERE WHAT IT READS IS OF BULK AT MOST 1048576: true; the input reads as it did. -/
def runExitUptoRow : OpenClaim := { program := "ytnngddgaobhkiaa", sum := "57aec0ece2404ce3cd02da338370f92f66c54cb4beb5d326459c7f5d810d8a36", func := "penance/penancelaw8.RunExit", spec := "runExit", unfollowed := true, recurses := true, apart := false, narrowed := true }
def RunExitUptoSaid : Prop := runExitUptoRow.holds Try.pinned (OpenSpec.upto runExitSpec)

/-- 'penancelaw8.RunSide', WHERE WHAT IT READS IS OF BULK AT MOST 1048576: true; the input reads as it did. -/
def runSideUptoRow : OpenClaim := { program := "ytnngddgaobhkiaa", sum := "57aec0ece2404ce3cd02da338370f92f66c54cb4beb5d326459c7f5d810d8a36", func := "penance/penancelaw8.RunSide", spec := "runSide", unfollowed := true, recurses := true, apart := false, narrowed := true }
def RunSideUptoSaid : Prop := runSideUptoRow.holds Try.pinned (OpenSpec.upto runSideSpec)

end Rows
end Go.Proofs.Ytnngddgaobhkiaa
