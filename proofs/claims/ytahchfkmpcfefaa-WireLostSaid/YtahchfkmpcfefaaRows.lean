/-
  No cell of these rows narrows 'for every input' (looked for: loops, veiled, ifaces, maps, wideKeys, modest, calm, conditions, laid).
  DERIVED. THE GIVEN ROWS OF THIS SEAT. 10 by the template 'for every input the law returns true; each argument reads behind the call as it read before'; 0 by the template 'total and deterministic' (their statements: YtahchfkmpcfefaaTotals.lean).
  GIVEN WITH THE SEED: the statements are not yours to turn. If you find one false, say at which input.
  Laid BY PROGRAM, IN A SANDBOX (cutbox-rows.mjs): the forced cells as the released guide's own fill.sh prints them over the translation ede65d9559c80faa… (all of the seat's roots in one cut). By AI agents, Wed Nov 11 2026. No macro, syntax, notation, axiom, sorry.
-/
import Derived.Test.YtahchfkmpcfefaaChecked
import GoSem.Claim
import GoSem.ClaimJoined
import GoSem.ClaimMapViews
import Derived.JoinedTies
import Derived.KernelRfl
namespace Go.Proofs.Ytahchfkmpcfefaa
/- THE CELL 'sum', in the pinned program and in every row, IS THE sha256 OF THE DUMP (.gsa) THAT YtahchfkmpcfefaaProg.lean LOADS. Nothing in Lean hashes anything: it is a label: what it is worth is what the hold of that sum in a sandbox is worth. -/
noncomputable def Try.pinned : Pinned := { name := "ytahchfkmpcfefaa", sum := "ede65d9559c80faa65e234bfff6dc4c0391f30035cc373ecafca15d0395fc616", checked := Try.checked }
namespace Rows
def none {H : Type} : Left H := { results := [], args := [] }

/-- 'penancelaw12.WireOpen': WHATEVER THE INPUT: true; the input reads as it did. -/
def wireOpenSpec : ChangeSpec := { name := "wireOpen", fn := fun _ => fun
  | [d] => { results := [.lit (.bool true)], args := [d] }
  | _ => none }
def wireOpenRow : OpenClaim := { program := "ytahchfkmpcfefaa", sum := "ede65d9559c80faa65e234bfff6dc4c0391f30035cc373ecafca15d0395fc616", func := "penance/penancelaw12.WireOpen", spec := "wireOpen", unfollowed := true, recurses := true, apart := false }
def WireOpenSaid : Prop := wireOpenRow.holds Try.pinned (OpenSpec.ofChange wireOpenSpec)

/-- ITS FALSE NEIGHBOUR: 'it returns false'. Refute it at one input. -/
def wireOpenWrong : ChangeSpec := { name := "wireOpen", fn := fun _ => fun
  | [d] => { results := [.lit (.bool false)], args := [d] }
  | _ => none }
def WireOpenWrongFalsely : Prop := wireOpenRow.holds Try.pinned (OpenSpec.ofChange wireOpenWrong)

/-- 'penancelaw12.WireValues': WHATEVER THE INPUT: true; the input reads as it did. -/
def wireValuesSpec : ChangeSpec := { name := "wireValues", fn := fun _ => fun
  | [d1, d2] => { results := [.lit (.bool true)], args := [d1, d2] }
  | _ => none }
def wireValuesRow : OpenClaim := { program := "ytahchfkmpcfefaa", sum := "ede65d9559c80faa65e234bfff6dc4c0391f30035cc373ecafca15d0395fc616", func := "penance/penancelaw12.WireValues", spec := "wireValues", unfollowed := true, recurses := true, apart := false }
def WireValuesSaid : Prop := wireValuesRow.holds Try.pinned (OpenSpec.ofChange wireValuesSpec)

/-- ITS FALSE NEIGHBOUR: 'it returns false'. Refute it at one input. -/
def wireValuesWrong : ChangeSpec := { name := "wireValues", fn := fun _ => fun
  | [d1, d2] => { results := [.lit (.bool false)], args := [d1, d2] }
  | _ => none }
def WireValuesWrongFalsely : Prop := wireValuesRow.holds Try.pinned (OpenSpec.ofChange wireValuesWrong)

/-- 'penancelaw12.WireCrash': WHATEVER THE INPUT: true; the input reads as it did. -/
def wireCrashSpec : ChangeSpec := { name := "wireCrash", fn := fun _ => fun
  | [d1, d2, d3] => { results := [.lit (.bool true)], args := [d1, d2, d3] }
  | _ => none }
def wireCrashRow : OpenClaim := { program := "ytahchfkmpcfefaa", sum := "ede65d9559c80faa65e234bfff6dc4c0391f30035cc373ecafca15d0395fc616", func := "penance/penancelaw12.WireCrash", spec := "wireCrash", unfollowed := true, recurses := true, apart := false }
def WireCrashSaid : Prop := wireCrashRow.holds Try.pinned (OpenSpec.ofChange wireCrashSpec)

/-- ITS FALSE NEIGHBOUR: 'it returns false'. Refute it at one input. -/
def wireCrashWrong : ChangeSpec := { name := "wireCrash", fn := fun _ => fun
  | [d1, d2, d3] => { results := [.lit (.bool false)], args := [d1, d2, d3] }
  | _ => none }
def WireCrashWrongFalsely : Prop := wireCrashRow.holds Try.pinned (OpenSpec.ofChange wireCrashWrong)

/-- 'penancelaw12.WireLost': WHATEVER THE INPUT: true; the input reads as it did. -/
def wireLostSpec : ChangeSpec := { name := "wireLost", fn := fun _ => fun
  | [d1, d2, d3] => { results := [.lit (.bool true)], args := [d1, d2, d3] }
  | _ => none }
def wireLostRow : OpenClaim := { program := "ytahchfkmpcfefaa", sum := "ede65d9559c80faa65e234bfff6dc4c0391f30035cc373ecafca15d0395fc616", func := "penance/penancelaw12.WireLost", spec := "wireLost", unfollowed := true, recurses := true, apart := false }
def WireLostSaid : Prop := wireLostRow.holds Try.pinned (OpenSpec.ofChange wireLostSpec)

/-- ITS FALSE NEIGHBOUR: 'it returns false'. Refute it at one input. -/
def wireLostWrong : ChangeSpec := { name := "wireLost", fn := fun _ => fun
  | [d1, d2, d3] => { results := [.lit (.bool false)], args := [d1, d2, d3] }
  | _ => none }
def WireLostWrongFalsely : Prop := wireLostRow.holds Try.pinned (OpenSpec.ofChange wireLostWrong)

/-- 'penancelaw12.WireAgain': WHATEVER THE INPUT: true; the input reads as it did. -/
def wireAgainSpec : ChangeSpec := { name := "wireAgain", fn := fun _ => fun
  | [d1, d2, d3] => { results := [.lit (.bool true)], args := [d1, d2, d3] }
  | _ => none }
def wireAgainRow : OpenClaim := { program := "ytahchfkmpcfefaa", sum := "ede65d9559c80faa65e234bfff6dc4c0391f30035cc373ecafca15d0395fc616", func := "penance/penancelaw12.WireAgain", spec := "wireAgain", unfollowed := true, recurses := true, apart := false }
def WireAgainSaid : Prop := wireAgainRow.holds Try.pinned (OpenSpec.ofChange wireAgainSpec)

/-- ITS FALSE NEIGHBOUR: 'it returns false'. Refute it at one input. -/
def wireAgainWrong : ChangeSpec := { name := "wireAgain", fn := fun _ => fun
  | [d1, d2, d3] => { results := [.lit (.bool false)], args := [d1, d2, d3] }
  | _ => none }
def WireAgainWrongFalsely : Prop := wireAgainRow.holds Try.pinned (OpenSpec.ofChange wireAgainWrong)

/-- 'penancelaw12.WireForgets': WHATEVER THE INPUT: true; the input reads as it did. -/
def wireForgetsSpec : ChangeSpec := { name := "wireForgets", fn := fun _ => fun
  | [d1, d2] => { results := [.lit (.bool true)], args := [d1, d2] }
  | _ => none }
def wireForgetsRow : OpenClaim := { program := "ytahchfkmpcfefaa", sum := "ede65d9559c80faa65e234bfff6dc4c0391f30035cc373ecafca15d0395fc616", func := "penance/penancelaw12.WireForgets", spec := "wireForgets", unfollowed := true, recurses := true, apart := false }
def WireForgetsSaid : Prop := wireForgetsRow.holds Try.pinned (OpenSpec.ofChange wireForgetsSpec)

/-- ITS FALSE NEIGHBOUR: 'it returns false'. Refute it at one input. -/
def wireForgetsWrong : ChangeSpec := { name := "wireForgets", fn := fun _ => fun
  | [d1, d2] => { results := [.lit (.bool false)], args := [d1, d2] }
  | _ => none }
def WireForgetsWrongFalsely : Prop := wireForgetsRow.holds Try.pinned (OpenSpec.ofChange wireForgetsWrong)

/-- 'penancelaw12.WirePlays': WHATEVER THE INPUT: true; the input reads as it did. -/
def wirePlaysSpec : ChangeSpec := { name := "wirePlays", fn := fun _ => fun
  | [d1, d2, d3] => { results := [.lit (.bool true)], args := [d1, d2, d3] }
  | _ => none }
def wirePlaysRow : OpenClaim := { program := "ytahchfkmpcfefaa", sum := "ede65d9559c80faa65e234bfff6dc4c0391f30035cc373ecafca15d0395fc616", func := "penance/penancelaw12.WirePlays", spec := "wirePlays", unfollowed := true, recurses := true, apart := false }
def WirePlaysSaid : Prop := wirePlaysRow.holds Try.pinned (OpenSpec.ofChange wirePlaysSpec)

/-- ITS FALSE NEIGHBOUR: 'it returns false'. Refute it at one input. -/
def wirePlaysWrong : ChangeSpec := { name := "wirePlays", fn := fun _ => fun
  | [d1, d2, d3] => { results := [.lit (.bool false)], args := [d1, d2, d3] }
  | _ => none }
def WirePlaysWrongFalsely : Prop := wirePlaysRow.holds Try.pinned (OpenSpec.ofChange wirePlaysWrong)

/-- 'penancelaw12.WireOnce': WHATEVER THE INPUT: true; the input reads as it did. -/
def wireOnceSpec : ChangeSpec := { name := "wireOnce", fn := fun _ => fun
  | [d1, d2] => { results := [.lit (.bool true)], args := [d1, d2] }
  | _ => none }
def wireOnceRow : OpenClaim := { program := "ytahchfkmpcfefaa", sum := "ede65d9559c80faa65e234bfff6dc4c0391f30035cc373ecafca15d0395fc616", func := "penance/penancelaw12.WireOnce", spec := "wireOnce", unfollowed := true, recurses := true, apart := false }
def WireOnceSaid : Prop := wireOnceRow.holds Try.pinned (OpenSpec.ofChange wireOnceSpec)

/-- ITS FALSE NEIGHBOUR: 'it returns false'. Refute it at one input. -/
def wireOnceWrong : ChangeSpec := { name := "wireOnce", fn := fun _ => fun
  | [d1, d2] => { results := [.lit (.bool false)], args := [d1, d2] }
  | _ => none }
def WireOnceWrongFalsely : Prop := wireOnceRow.holds Try.pinned (OpenSpec.ofChange wireOnceWrong)

/-- 'penancelaw12.WireFlight': WHATEVER THE INPUT: true; the input reads as it did. -/
def wireFlightSpec : ChangeSpec := { name := "wireFlight", fn := fun _ => fun
  | [d1, d2] => { results := [.lit (.bool true)], args := [d1, d2] }
  | _ => none }
def wireFlightRow : OpenClaim := { program := "ytahchfkmpcfefaa", sum := "ede65d9559c80faa65e234bfff6dc4c0391f30035cc373ecafca15d0395fc616", func := "penance/penancelaw12.WireFlight", spec := "wireFlight", unfollowed := true, recurses := true, apart := false }
def WireFlightSaid : Prop := wireFlightRow.holds Try.pinned (OpenSpec.ofChange wireFlightSpec)

/-- ITS FALSE NEIGHBOUR: 'it returns false'. Refute it at one input. -/
def wireFlightWrong : ChangeSpec := { name := "wireFlight", fn := fun _ => fun
  | [d1, d2] => { results := [.lit (.bool false)], args := [d1, d2] }
  | _ => none }
def WireFlightWrongFalsely : Prop := wireFlightRow.holds Try.pinned (OpenSpec.ofChange wireFlightWrong)

/-- 'penancelaw12.WireOwn': WHATEVER THE INPUT: true; the input reads as it did. -/
def wireOwnSpec : ChangeSpec := { name := "wireOwn", fn := fun _ => fun
  | [d1, d2, d3, d4] => { results := [.lit (.bool true)], args := [d1, d2, d3, d4] }
  | _ => none }
def wireOwnRow : OpenClaim := { program := "ytahchfkmpcfefaa", sum := "ede65d9559c80faa65e234bfff6dc4c0391f30035cc373ecafca15d0395fc616", func := "penance/penancelaw12.WireOwn", spec := "wireOwn", unfollowed := true, recurses := true, apart := false }
def WireOwnSaid : Prop := wireOwnRow.holds Try.pinned (OpenSpec.ofChange wireOwnSpec)

/-- ITS FALSE NEIGHBOUR: 'it returns false'. Refute it at one input. -/
def wireOwnWrong : ChangeSpec := { name := "wireOwn", fn := fun _ => fun
  | [d1, d2, d3, d4] => { results := [.lit (.bool false)], args := [d1, d2, d3, d4] }
  | _ => none }
def WireOwnWrongFalsely : Prop := wireOwnRow.holds Try.pinned (OpenSpec.ofChange wireOwnWrong)

/- THE SECOND FORM. 'bulk': how many values and letters a reading holds, each counted each time it is reached (what is shared counts as often as it is met; a slice's spare places count too). A statement '..UptoSaid' is the law's where the arguments, and the package variables that the reading takes, are together of bulk at most 1048576: NARROWER than '..Said'. Prove '..Said' where nothing that the law and all that it calls make is longer than what came in: it says more and counts as full. Else prove '..UptoSaid'. A law counts once. -/
mutual
def uptoBulk {H : Type} : DataW H → Nat
  | .lit (.string bytes) => bytes.length + 1
  | .lit _ => 1
  | .nil => 1
  | .ptr d => uptoBulk d + 1
  | .slice elems spare => uptoBulkAll elems + uptoBulkAll spare + 1
  | .agg parts => uptoBulkAll parts + 1
  | .iface _ d => uptoBulk d + 1
  | .map entries => uptoBulkEntries entries + 1
  | .held _ => 1
def uptoBulkAll {H : Type} : List (DataW H) → Nat
  | [] => 0
  | d :: r => uptoBulk d + uptoBulkAll r
def uptoBulkEntries {H : Type} : List (Lit × DataW H) → Nat
  | [] => 0
  | x :: r => uptoBulkEntry x + uptoBulkEntries r
def uptoBulkEntry {H : Type} : Lit × DataW H → Nat
  | (.string bytes, d) => bytes.length + uptoBulk d + 1
  | (_, d) => uptoBulk d + 1
 end
def uptoSmall : (H : Type) → List (DataW H) → Bool := fun _ ds => decide (uptoBulkAll ds ≤ 1048576)
def OpenSpec.upto (s : _root_.Go.ChangeSpec) : _root_.Go.OpenSpec := { _root_.Go.OpenSpec.ofChange s with cond := some uptoSmall }

/-- 'penancelaw12.WireOpen', WHERE WHAT IT READS IS OF BULK AT MOST 1048576: true; the input reads as it did. -/
def wireOpenUptoRow : OpenClaim := { program := "ytahchfkmpcfefaa", sum := "ede65d9559c80faa65e234bfff6dc4c0391f30035cc373ecafca15d0395fc616", func := "penance/penancelaw12.WireOpen", spec := "wireOpen", unfollowed := true, recurses := true, apart := false, narrowed := true }
def WireOpenUptoSaid : Prop := wireOpenUptoRow.holds Try.pinned (OpenSpec.upto wireOpenSpec)

/-- 'penancelaw12.WireValues', WHERE WHAT IT READS IS OF BULK AT MOST 1048576: true; the input reads as it did. -/
def wireValuesUptoRow : OpenClaim := { program := "ytahchfkmpcfefaa", sum := "ede65d9559c80faa65e234bfff6dc4c0391f30035cc373ecafca15d0395fc616", func := "penance/penancelaw12.WireValues", spec := "wireValues", unfollowed := true, recurses := true, apart := false, narrowed := true }
def WireValuesUptoSaid : Prop := wireValuesUptoRow.holds Try.pinned (OpenSpec.upto wireValuesSpec)

/-- 'penancelaw12.WireCrash', WHERE WHAT IT READS IS OF BULK AT MOST 1048576: true; the input reads as it did. -/
def wireCrashUptoRow : OpenClaim := { program := "ytahchfkmpcfefaa", sum := "ede65d9559c80faa65e234bfff6dc4c0391f30035cc373ecafca15d0395fc616", func := "penance/penancelaw12.WireCrash", spec := "wireCrash", unfollowed := true, recurses := true, apart := false, narrowed := true }
def WireCrashUptoSaid : Prop := wireCrashUptoRow.holds Try.pinned (OpenSpec.upto wireCrashSpec)

/-- 'penancelaw12.WireLost', WHERE WHAT IT READS IS OF BULK AT MOST 1048576: true; the input reads as it did. -/
def wireLostUptoRow : OpenClaim := { program := "ytahchfkmpcfefaa", sum := "ede65d9559c80faa65e234bfff6dc4c0391f30035cc373ecafca15d0395fc616", func := "penance/penancelaw12.WireLost", spec := "wireLost", unfollowed := true, recurses := true, apart := false, narrowed := true }
def WireLostUptoSaid : Prop := wireLostUptoRow.holds Try.pinned (OpenSpec.upto wireLostSpec)

/-- 'penancelaw12.WireAgain', WHERE WHAT IT READS IS OF BULK AT MOST 1048576: true; the input reads as it did. -/
def wireAgainUptoRow : OpenClaim := { program := "ytahchfkmpcfefaa", sum := "ede65d9559c80faa65e234bfff6dc4c0391f30035cc373ecafca15d0395fc616", func := "penance/penancelaw12.WireAgain", spec := "wireAgain", unfollowed := true, recurses := true, apart := false, narrowed := true }
def WireAgainUptoSaid : Prop := wireAgainUptoRow.holds Try.pinned (OpenSpec.upto wireAgainSpec)

/-- 'penancelaw12.WireForgets', WHERE WHAT IT READS IS OF BULK AT MOST 1048576: true; the input reads as it did. -/
def wireForgetsUptoRow : OpenClaim := { program := "ytahchfkmpcfefaa", sum := "ede65d9559c80faa65e234bfff6dc4c0391f30035cc373ecafca15d0395fc616", func := "penance/penancelaw12.WireForgets", spec := "wireForgets", unfollowed := true, recurses := true, apart := false, narrowed := true }
def WireForgetsUptoSaid : Prop := wireForgetsUptoRow.holds Try.pinned (OpenSpec.upto wireForgetsSpec)

/-- 'penancelaw12.WirePlays', WHERE WHAT IT READS IS OF BULK AT MOST 1048576: true; the input reads as it did. -/
def wirePlaysUptoRow : OpenClaim := { program := "ytahchfkmpcfefaa", sum := "ede65d9559c80faa65e234bfff6dc4c0391f30035cc373ecafca15d0395fc616", func := "penance/penancelaw12.WirePlays", spec := "wirePlays", unfollowed := true, recurses := true, apart := false, narrowed := true }
def WirePlaysUptoSaid : Prop := wirePlaysUptoRow.holds Try.pinned (OpenSpec.upto wirePlaysSpec)

/-- 'penancelaw12.WireOnce', WHERE WHAT IT READS IS OF BULK AT MOST 1048576: true; the input reads as it did. -/
def wireOnceUptoRow : OpenClaim := { program := "ytahchfkmpcfefaa", sum := "ede65d9559c80faa65e234bfff6dc4c0391f30035cc373ecafca15d0395fc616", func := "penance/penancelaw12.WireOnce", spec := "wireOnce", unfollowed := true, recurses := true, apart := false, narrowed := true }
def WireOnceUptoSaid : Prop := wireOnceUptoRow.holds Try.pinned (OpenSpec.upto wireOnceSpec)

/-- 'penancelaw12.WireFlight', WHERE WHAT IT READS IS OF BULK AT MOST 1048576: true; the input reads as it did. -/
def wireFlightUptoRow : OpenClaim := { program := "ytahchfkmpcfefaa", sum := "ede65d9559c80faa65e234bfff6dc4c0391f30035cc373ecafca15d0395fc616", func := "penance/penancelaw12.WireFlight", spec := "wireFlight", unfollowed := true, recurses := true, apart := false, narrowed := true }
def WireFlightUptoSaid : Prop := wireFlightUptoRow.holds Try.pinned (OpenSpec.upto wireFlightSpec)

/-- 'penancelaw12.WireOwn', WHERE WHAT IT READS IS OF BULK AT MOST 1048576: true; the input reads as it did. -/
def wireOwnUptoRow : OpenClaim := { program := "ytahchfkmpcfefaa", sum := "ede65d9559c80faa65e234bfff6dc4c0391f30035cc373ecafca15d0395fc616", func := "penance/penancelaw12.WireOwn", spec := "wireOwn", unfollowed := true, recurses := true, apart := false, narrowed := true }
def WireOwnUptoSaid : Prop := wireOwnUptoRow.holds Try.pinned (OpenSpec.upto wireOwnSpec)

end Rows
end Go.Proofs.Ytahchfkmpcfefaa
