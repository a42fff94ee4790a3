/-
  NARROWER THAN 'FOR EVERY INPUT', by the rows' own cells (each row's printed sentence says how): RunPlays: loops · RunChecks: loops · RunStacks: loops · RunKeys: loops · RunSteps: loops · RunTells: loops · RunOwn: loops.
  DERIVED. THE GIVEN ROWS OF THIS SEAT. 8 by the template 'for every input the law returns true; each argument reads behind the call as it read before'; 0 by the template 'total and deterministic' (their statements: YtnngddgaobhkiaaGreatTotals.lean).
  GIVEN WITH THE SEED: the statements are not yours to turn. If you find one false, say at which input.
  Laid BY PROGRAM, IN A SANDBOX (cutbox-rows.mjs): the forced cells as the released guide's own fill.sh prints them over the translation d7a16673994edfc1… (all of the seat's roots in one cut). By AI agents, Wed Nov 11 2026. No macro, syntax, notation, axiom, sorry.
-/
import Derived.Test.YtnngddgaobhkiaaGreatChecked
import GoSem.Claim
import GoSem.ClaimJoined
import GoSem.ClaimMapViews
import Derived.JoinedTies
import Derived.KernelRfl
namespace Go.Proofs.YtnngddgaobhkiaaGreat
/- THE CELL 'sum', in the pinned program and in every row, IS THE sha256 OF THE DUMP (.gsa) THAT YtnngddgaobhkiaaGreatProg.lean LOADS. Nothing in Lean hashes anything: it is a label: what it is worth is what the hold of that sum in a sandbox is worth. -/
noncomputable def Tryz.pinned : Pinned := { name := "ytnngddgaobhkiaagreat", sum := "d7a16673994edfc157e2e702cd95e1b9618bb15e19ad4bac3579b36a63cef708", checked := Tryz.checked }
namespace Rows
def none {H : Type} : Left H := { results := [], args := [] }

/-- 'penancelaw8.RunPlays': WHATEVER THE INPUT: true; the input reads as it did. -/
def runPlaysSpec : ChangeSpec := { name := "runPlays", fn := fun _ => fun
  | [d1, d2, d3] => { results := [.lit (.bool true)], args := [d1, d2, d3] }
  | _ => none }
def runPlaysRow : OpenClaim := { program := "ytnngddgaobhkiaagreat", sum := "d7a16673994edfc157e2e702cd95e1b9618bb15e19ad4bac3579b36a63cef708", func := "penance/penancelaw8.RunPlays", spec := "runPlays", unfollowed := true, recurses := true, loops := true, apart := false }
def RunPlaysSaid : Prop := runPlaysRow.holds Tryz.pinned (OpenSpec.ofChange runPlaysSpec)

/-- ITS FALSE NEIGHBOUR: 'it returns false'. Refute it at one input. -/
def runPlaysWrong : ChangeSpec := { name := "runPlays", fn := fun _ => fun
  | [d1, d2, d3] => { results := [.lit (.bool false)], args := [d1, d2, d3] }
  | _ => none }
def RunPlaysWrongFalsely : Prop := runPlaysRow.holds Tryz.pinned (OpenSpec.ofChange runPlaysWrong)

/-- 'penancelaw8.RunChecks': WHATEVER THE INPUT: true; the input reads as it did. -/
def runChecksSpec : ChangeSpec := { name := "runChecks", fn := fun _ => fun
  | [d1, d2, d3, d4, d5] => { results := [.lit (.bool true)], args := [d1, d2, d3, d4, d5] }
  | _ => none }
def runChecksRow : OpenClaim := { program := "ytnngddgaobhkiaagreat", sum := "d7a16673994edfc157e2e702cd95e1b9618bb15e19ad4bac3579b36a63cef708", func := "penance/penancelaw8.RunChecks", spec := "runChecks", unfollowed := true, recurses := true, loops := true, apart := false }
def RunChecksSaid : Prop := runChecksRow.holds Tryz.pinned (OpenSpec.ofChange runChecksSpec)

/-- ITS FALSE NEIGHBOUR: 'it returns false'. Refute it at one input. -/
def runChecksWrong : ChangeSpec := { name := "runChecks", fn := fun _ => fun
  | [d1, d2, d3, d4, d5] => { results := [.lit (.bool false)], args := [d1, d2, d3, d4, d5] }
  | _ => none }
def RunChecksWrongFalsely : Prop := runChecksRow.holds Tryz.pinned (OpenSpec.ofChange runChecksWrong)

/-- 'penancelaw8.RunStacks': WHATEVER THE INPUT: true; the input reads as it did. -/
def runStacksSpec : ChangeSpec := { name := "runStacks", fn := fun _ => fun
  | [d1, d2] => { results := [.lit (.bool true)], args := [d1, d2] }
  | _ => none }
def runStacksRow : OpenClaim := { program := "ytnngddgaobhkiaagreat", sum := "d7a16673994edfc157e2e702cd95e1b9618bb15e19ad4bac3579b36a63cef708", func := "penance/penancelaw8.RunStacks", spec := "runStacks", unfollowed := true, recurses := true, loops := true, apart := false }
def RunStacksSaid : Prop := runStacksRow.holds Tryz.pinned (OpenSpec.ofChange runStacksSpec)

/-- ITS FALSE NEIGHBOUR: 'it returns false'. Refute it at one input. -/
def runStacksWrong : ChangeSpec := { name := "runStacks", fn := fun _ => fun
  | [d1, d2] => { results := [.lit (.bool false)], args := [d1, d2] }
  | _ => none }
def RunStacksWrongFalsely : Prop := runStacksRow.holds Tryz.pinned (OpenSpec.ofChange runStacksWrong)

/-- 'penancelaw8.RunFaults': WHATEVER THE INPUT: true; the input reads as it did. -/
def runFaultsSpec : ChangeSpec := { name := "runFaults", fn := fun _ => fun
  | [d1, d2] => { results := [.lit (.bool true)], args := [d1, d2] }
  | _ => none }
def runFaultsRow : OpenClaim := { program := "ytnngddgaobhkiaagreat", sum := "d7a16673994edfc157e2e702cd95e1b9618bb15e19ad4bac3579b36a63cef708", func := "penance/penancelaw8.RunFaults", spec := "runFaults", unfollowed := true, recurses := true, apart := false }
def RunFaultsSaid : Prop := runFaultsRow.holds Tryz.pinned (OpenSpec.ofChange runFaultsSpec)

/-- ITS FALSE NEIGHBOUR: 'it returns false'. Refute it at one input. -/
def runFaultsWrong : ChangeSpec := { name := "runFaults", fn := fun _ => fun
  | [d1, d2] => { results := [.lit (.bool false)], args := [d1, d2] }
  | _ => none }
def RunFaultsWrongFalsely : Prop := runFaultsRow.holds Tryz.pinned (OpenSpec.ofChange runFaultsWrong)

/-- 'penancelaw8.RunKeys': WHATEVER THE INPUT: true; the input reads as it did. -/
def runKeysSpec : ChangeSpec := { name := "runKeys", fn := fun _ => fun
  | [d1, d2] => { results := [.lit (.bool true)], args := [d1, d2] }
  | _ => none }
def runKeysRow : OpenClaim := { program := "ytnngddgaobhkiaagreat", sum := "d7a16673994edfc157e2e702cd95e1b9618bb15e19ad4bac3579b36a63cef708", func := "penance/penancelaw8.RunKeys", spec := "runKeys", unfollowed := true, recurses := true, loops := true, apart := false }
def RunKeysSaid : Prop := runKeysRow.holds Tryz.pinned (OpenSpec.ofChange runKeysSpec)

/-- ITS FALSE NEIGHBOUR: 'it returns false'. Refute it at one input. -/
def runKeysWrong : ChangeSpec := { name := "runKeys", fn := fun _ => fun
  | [d1, d2] => { results := [.lit (.bool false)], args := [d1, d2] }
  | _ => none }
def RunKeysWrongFalsely : Prop := runKeysRow.holds Tryz.pinned (OpenSpec.ofChange runKeysWrong)

/-- 'penancelaw8.RunSteps': WHATEVER THE INPUT: true; the input reads as it did. -/
def runStepsSpec : ChangeSpec := { name := "runSteps", fn := fun _ => fun
  | [d1, d2, d3] => { results := [.lit (.bool true)], args := [d1, d2, d3] }
  | _ => none }
def runStepsRow : OpenClaim := { program := "ytnngddgaobhkiaagreat", sum := "d7a16673994edfc157e2e702cd95e1b9618bb15e19ad4bac3579b36a63cef708", func := "penance/penancelaw8.RunSteps", spec := "runSteps", unfollowed := true, recurses := true, loops := true, apart := false }
def RunStepsSaid : Prop := runStepsRow.holds Tryz.pinned (OpenSpec.ofChange runStepsSpec)

/-- ITS FALSE NEIGHBOUR: 'it returns false'. Refute it at one input. -/
def runStepsWrong : ChangeSpec := { name := "runSteps", fn := fun _ => fun
  | [d1, d2, d3] => { results := [.lit (.bool false)], args := [d1, d2, d3] }
  | _ => none }
def RunStepsWrongFalsely : Prop := runStepsRow.holds Tryz.pinned (OpenSpec.ofChange runStepsWrong)

/-- 'penancelaw8.RunTells': WHATEVER THE INPUT: true; the input reads as it did. -/
def runTellsSpec : ChangeSpec := { name := "runTells", fn := fun _ => fun
  | [d1, d2, d3, d4] => { results := [.lit (.bool true)], args := [d1, d2, d3, d4] }
  | _ => none }
def runTellsRow : OpenClaim := { program := "ytnngddgaobhkiaagreat", sum := "d7a16673994edfc157e2e702cd95e1b9618bb15e19ad4bac3579b36a63cef708", func := "penance/penancelaw8.RunTells", spec := "runTells", unfollowed := true, recurses := true, loops := true, apart := false }
def RunTellsSaid : Prop := runTellsRow.holds Tryz.pinned (OpenSpec.ofChange runTellsSpec)

/-- ITS FALSE NEIGHBOUR: 'it returns false'. Refute it at one input. -/
def runTellsWrong : ChangeSpec := { name := "runTells", fn := fun _ => fun
  | [d1, d2, d3, d4] => { results := [.lit (.bool false)], args := [d1, d2, d3, d4] }
  | _ => none }
def RunTellsWrongFalsely : Prop := runTellsRow.holds Tryz.pinned (OpenSpec.ofChange runTellsWrong)

/-- 'penancelaw8.RunOwn': WHATEVER THE INPUT: true; the input reads as it did. -/
def runOwnSpec : ChangeSpec := { name := "runOwn", fn := fun _ => fun
  | [d1, d2, d3] => { results := [.lit (.bool true)], args := [d1, d2, d3] }
  | _ => none }
def runOwnRow : OpenClaim := { program := "ytnngddgaobhkiaagreat", sum := "d7a16673994edfc157e2e702cd95e1b9618bb15e19ad4bac3579b36a63cef708", func := "penance/penancelaw8.RunOwn", spec := "runOwn", unfollowed := true, recurses := true, loops := true, apart := false }
def RunOwnSaid : Prop := runOwnRow.holds Tryz.pinned (OpenSpec.ofChange runOwnSpec)

/-- ITS FALSE NEIGHBOUR: 'it returns false'. Refute it at one input. -/
def runOwnWrong : ChangeSpec := { name := "runOwn", fn := fun _ => fun
  | [d1, d2, d3] => { results := [.lit (.bool false)], args := [d1, d2, d3] }
  | _ => none }
def RunOwnWrongFalsely : Prop := runOwnRow.holds Tryz.pinned (OpenSpec.ofChange runOwnWrong)

/- THE SECOND FORM. 'bulk': how many values and letters a reading holds, each counted each time it is reached (what is shared counts as often as it is met; a slice's spare places count too). A statement '..UptoSaid' is the law's where the arguments, and the package variables that the reading takes, are together of bulk at most 1048576: NARROWER than '..Said'. Prove '..Said' where nothing that the law and all that it calls make is longer than what came in: it says more and counts as full. Else prove '..UptoSaid'. A law counts once. -/
mutual
def uptoBulk {H : Type} : DataW H → Nat
  | .lit (.string bytes) => bytes.length + 1
  | .lit _ => 1
  | .nil => 1
  | .ptr d => uptoBulk d + 1
  | .slice elems spare => uptoBulkAll elems + uptoBulkAll spare + 1
  | .agg parts => uptoBulkAll parts + 1
  | .iface _ d => uptoBulk d + 1
  | .map entries => uptoBulkEntries entries + 1
  | .held _ => 1
def uptoBulkAll {H : Type} : List (DataW H) → Nat
  | [] => 0
  | d :: r => uptoBulk d + uptoBulkAll r
def uptoBulkEntries {H : Type} : List (Lit × DataW H) → Nat
  | [] => 0
  | x :: r => uptoBulkEntry x + uptoBulkEntries r
def uptoBulkEntry {H : Type} : Lit × DataW H → Nat
  | (.string bytes, d) => bytes.length + uptoBulk d + 1
  | (_, d) => uptoBulk d + 1
 end
def uptoSmall : (H : Type) → List (DataW H) → Bool := fun _ ds => decide (uptoBulkAll ds ≤ 1048576)
def OpenSpec.upto (s : _root_.Go.ChangeSpec) : _root_.Go.OpenSpec := { _root_.Go.OpenSpec.ofChange s with cond := some uptoSmall }

/-- 'penancelaw8.RunPlays', WHERE WHAT IT READS IS OF BULK AT MOST 1048576: true; the input reads as it did. -/
def runPlaysUptoRow : OpenClaim := { program := "ytnngddgaobhkiaagreat", sum := "d7a16673994edfc157e2e702cd95e1b9618bb15e19ad4bac3579b36a63cef708", func := "penance/penancelaw8.RunPlays", spec := "runPlays", unfollowed := true, recurses := true, loops := true, apart := false, narrowed := true }
def RunPlaysUptoSaid : Prop := runPlaysUptoRow.holds Tryz.pinned (OpenSpec.upto runPlaysSpec)

/-- 'penancelaw8.RunChecks', WHERE WHAT IT READS IS OF BULK AT MOST 1048576: true; the input reads as it did. -/
def runChecksUptoRow : OpenClaim := { program := "ytnngddgaobhkiaagreat", sum := "d7a16673994edfc157e2e702cd95e1b9618bb15e19ad4bac3579b36a63cef708", func := "penance/penancelaw8.RunChecks", spec := "runChecks", unfollowed := true, recurses := true, loops := true, apart := false, narrowed := true }
def RunChecksUptoSaid : Prop := runChecksUptoRow.holds Tryz.pinned (OpenSpec.upto runChecksSpec)

/-- 'penancelaw8.RunStacks', WHERE WHAT IT READS IS OF BULK AT MOST 1048576: true; the input reads as it did. -/
def runStacksUptoRow : OpenClaim := { program := "ytnngddgaobhkiaagreat", sum := "d7a16673994edfc157e2e702cd95e1b9618bb15e19ad4bac3579b36a63cef708", func := "penance/penancelaw8.RunStacks", spec := "runStacks", unfollowed := true, recurses := true, loops := true, apart := false, narrowed := true }
def RunStacksUptoSaid : Prop := runStacksUptoRow.holds Tryz.pinned (OpenSpec.upto runStacksSpec)

/-- 'penancelaw8.RunFaults', WHERE WHAT IT READS IS OF BULK AT MOST 1048576: true; the input reads as it did. -/
def runFaultsUptoRow : OpenClaim := { program := "ytnngddgaobhkiaagreat", sum := "d7a16673994edfc157e2e702cd95e1b9618bb15e19ad4bac3579b36a63cef708", func := "penance/penancelaw8.RunFaults", spec := "runFaults", unfollowed := true, recurses := true, apart := false, narrowed := true }
def RunFaultsUptoSaid : Prop := runFaultsUptoRow.holds Tryz.pinned (OpenSpec.upto runFaultsSpec)

/-- 'penancelaw8.RunKeys', WHERE WHAT IT READS IS OF BULK AT MOST 1048576: true; the input reads as it did. -/
def runKeysUptoRow : OpenClaim := { program := "ytnngddgaobhkiaagreat", sum := "d7a16673994edfc157e2e702cd95e1b9618bb15e19ad4bac3579b36a63cef708", func := "penance/penancelaw8.RunKeys", spec := "runKeys", unfollowed := true, recurses := true, loops := true, apart := false, narrowed := true }
def RunKeysUptoSaid : Prop := runKeysUptoRow.holds Tryz.pinned (OpenSpec.upto runKeysSpec)

/-- 'penancelaw8.RunSteps', WHERE WHAT IT READS IS OF BULK AT MOST 1048576: true; the input reads as it did. -/
def runStepsUptoRow : OpenClaim := { program := "ytnngddgaobhkiaagreat", sum := "d7a16673994edfc157e2e702cd95e1b9618bb15e19ad4bac3579b36a63cef708", func := "penance/penancelaw8.RunSteps", spec := "runSteps", unfollowed := true, recurses := true, loops := true, apart := false, narrowed := true }
def RunStepsUptoSaid : Prop := runStepsUptoRow.holds Tryz.pinned (OpenSpec.upto runStepsSpec)

/-- 'penancelaw8.RunTells', WHERE WHAT IT READS IS OF BULK AT MOST 1048576: true; the input reads as it did. -/
def runTellsUptoRow : OpenClaim := { program := "ytnngddgaobhkiaagreat", sum := "d7a16673994edfc157e2e702cd95e1b9618bb15e19ad4bac3579b36a63cef708", func := "penance/penancelaw8.RunTells", spec := "runTells", unfollowed := true, recurses := true, loops := true, apart := false, narrowed := true }
def RunTellsUptoSaid : Prop := runTellsUptoRow.holds Tryz.pinned (OpenSpec.upto runTellsSpec)

/-- 'penancelaw8.RunOwn', WHERE WHAT IT READS IS OF BULK AT MOST 1048576: true; the input reads as it did. -/
def runOwnUptoRow : OpenClaim := { program := "ytnngddgaobhkiaagreat", sum := "d7a16673994edfc157e2e702cd95e1b9618bb15e19ad4bac3579b36a63cef708", func := "penance/penancelaw8.RunOwn", spec := "runOwn", unfollowed := true, recurses := true, loops := true, apart := false, narrowed := true }
def RunOwnUptoSaid : Prop := runOwnUptoRow.holds Tryz.pinned (OpenSpec.upto runOwnSpec)

end Rows
end Go.Proofs.YtnngddgaobhkiaaGreat
