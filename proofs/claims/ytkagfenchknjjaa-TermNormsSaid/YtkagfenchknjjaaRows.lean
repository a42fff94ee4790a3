/-
  NARROWER THAN 'FOR EVERY INPUT', by the rows' own cells (each row's printed sentence says how): StepsPlaces: loops · StepsPar: loops · StepsStatus: loops · StepsBlocks: loops · StepsWait: loops · StepsOrder: loops · StepsRow: loops · TermAll: loops · TermRaw: loops · TermNorms: loops · TermWaits: loops · TermSizes: loops · TermSame: loops · TermBounds: loops.
  DERIVED. THE GIVEN ROWS OF THIS SEAT. 17 by the template 'for every input the law returns true; each argument reads behind the call as it read before'; 0 by the template 'total and deterministic' (their statements: YtkagfenchknjjaaTotals.lean).
  GIVEN WITH THE SEED: the statements are not yours to turn. If you find one false, say at which input.
  Laid BY PROGRAM, IN A SANDBOX (cutbox-rows.mjs): the forced cells as the released guide's own fill.sh prints them over the translation c32d5864c0d78f84… (all of the seat's roots in one cut). By AI agents, Wed Nov 11 2026. No macro, syntax, notation, axiom, sorry.
-/
import Derived.Test.YtkagfenchknjjaaChecked
import GoSem.Claim
import GoSem.ClaimJoined
import GoSem.ClaimMapViews
import Derived.JoinedTies
import Derived.KernelRfl
namespace Go.Proofs.Ytkagfenchknjjaa
/- THE CELL 'sum', in the pinned program and in every row, IS THE sha256 OF THE DUMP (.gsa) THAT YtkagfenchknjjaaProg.lean LOADS. Nothing in Lean hashes anything: it is a label: what it is worth is what the hold of that sum in a sandbox is worth. -/
noncomputable def Try.pinned : Pinned := { name := "ytkagfenchknjjaa", sum := "c32d5864c0d78f843cfa5bae6f10cb363d08c0a343a57fdf959c4fa1936f4641", checked := Try.checked }
namespace Rows
def none {H : Type} : Left H := { results := [], args := [] }

/-- 'penancelaw7.StepsPlaces': WHATEVER THE INPUT: true; the input reads as it did. -/
def stepsPlacesSpec : ChangeSpec := { name := "stepsPlaces", fn := fun _ => fun
  | [d1, d2] => { results := [.lit (.bool true)], args := [d1, d2] }
  | _ => none }
def stepsPlacesRow : OpenClaim := { program := "ytkagfenchknjjaa", sum := "c32d5864c0d78f843cfa5bae6f10cb363d08c0a343a57fdf959c4fa1936f4641", func := "penance/penancelaw7.StepsPlaces", spec := "stepsPlaces", unfollowed := true, recurses := true, loops := true, apart := false }
def StepsPlacesSaid : Prop := stepsPlacesRow.holds Try.pinned (OpenSpec.ofChange stepsPlacesSpec)

/-- ITS FALSE NEIGHBOUR: 'it returns false'. Refute it at one input. -/
def stepsPlacesWrong : ChangeSpec := { name := "stepsPlaces", fn := fun _ => fun
  | [d1, d2] => { results := [.lit (.bool false)], args := [d1, d2] }
  | _ => none }
def StepsPlacesWrongFalsely : Prop := stepsPlacesRow.holds Try.pinned (OpenSpec.ofChange stepsPlacesWrong)

/-- 'penancelaw7.StepsPar': WHATEVER THE INPUT: true; the input reads as it did. -/
def stepsParSpec : ChangeSpec := { name := "stepsPar", fn := fun _ => fun
  | [d1, d2] => { results := [.lit (.bool true)], args := [d1, d2] }
  | _ => none }
def stepsParRow : OpenClaim := { program := "ytkagfenchknjjaa", sum := "c32d5864c0d78f843cfa5bae6f10cb363d08c0a343a57fdf959c4fa1936f4641", func := "penance/penancelaw7.StepsPar", spec := "stepsPar", unfollowed := true, recurses := true, loops := true, apart := false }
def StepsParSaid : Prop := stepsParRow.holds Try.pinned (OpenSpec.ofChange stepsParSpec)

/-- ITS FALSE NEIGHBOUR: 'it returns false'. Refute it at one input. -/
def stepsParWrong : ChangeSpec := { name := "stepsPar", fn := fun _ => fun
  | [d1, d2] => { results := [.lit (.bool false)], args := [d1, d2] }
  | _ => none }
def StepsParWrongFalsely : Prop := stepsParRow.holds Try.pinned (OpenSpec.ofChange stepsParWrong)

/-- 'penancelaw7.StepsExit': WHATEVER THE INPUT: true; the input reads as it did. -/
def stepsExitSpec : ChangeSpec := { name := "stepsExit", fn := fun _ => fun
  | [d1, d2, d3] => { results := [.lit (.bool true)], args := [d1, d2, d3] }
  | _ => none }
def stepsExitRow : OpenClaim := { program := "ytkagfenchknjjaa", sum := "c32d5864c0d78f843cfa5bae6f10cb363d08c0a343a57fdf959c4fa1936f4641", func := "penance/penancelaw7.StepsExit", spec := "stepsExit", unfollowed := true, recurses := true, apart := false }
def StepsExitSaid : Prop := stepsExitRow.holds Try.pinned (OpenSpec.ofChange stepsExitSpec)

/-- ITS FALSE NEIGHBOUR: 'it returns false'. Refute it at one input. -/
def stepsExitWrong : ChangeSpec := { name := "stepsExit", fn := fun _ => fun
  | [d1, d2, d3] => { results := [.lit (.bool false)], args := [d1, d2, d3] }
  | _ => none }
def StepsExitWrongFalsely : Prop := stepsExitRow.holds Try.pinned (OpenSpec.ofChange stepsExitWrong)

/-- 'penancelaw7.StepsStatus': WHATEVER THE INPUT: true; the input reads as it did. -/
def stepsStatusSpec : ChangeSpec := { name := "stepsStatus", fn := fun _ => fun
  | [d1, d2] => { results := [.lit (.bool true)], args := [d1, d2] }
  | _ => none }
def stepsStatusRow : OpenClaim := { program := "ytkagfenchknjjaa", sum := "c32d5864c0d78f843cfa5bae6f10cb363d08c0a343a57fdf959c4fa1936f4641", func := "penance/penancelaw7.StepsStatus", spec := "stepsStatus", unfollowed := true, recurses := true, loops := true, apart := false }
def StepsStatusSaid : Prop := stepsStatusRow.holds Try.pinned (OpenSpec.ofChange stepsStatusSpec)

/-- ITS FALSE NEIGHBOUR: 'it returns false'. Refute it at one input. -/
def stepsStatusWrong : ChangeSpec := { name := "stepsStatus", fn := fun _ => fun
  | [d1, d2] => { results := [.lit (.bool false)], args := [d1, d2] }
  | _ => none }
def StepsStatusWrongFalsely : Prop := stepsStatusRow.holds Try.pinned (OpenSpec.ofChange stepsStatusWrong)

/-- 'penancelaw7.StepsKinds': WHATEVER THE INPUT: true; the input reads as it did. -/
def stepsKindsSpec : ChangeSpec := { name := "stepsKinds", fn := fun _ => fun
  | [d] => { results := [.lit (.bool true)], args := [d] }
  | _ => none }
def stepsKindsRow : OpenClaim := { program := "ytkagfenchknjjaa", sum := "c32d5864c0d78f843cfa5bae6f10cb363d08c0a343a57fdf959c4fa1936f4641", func := "penance/penancelaw7.StepsKinds", spec := "stepsKinds", unfollowed := true, recurses := true, apart := false }
def StepsKindsSaid : Prop := stepsKindsRow.holds Try.pinned (OpenSpec.ofChange stepsKindsSpec)

/-- ITS FALSE NEIGHBOUR: 'it returns false'. Refute it at one input. -/
def stepsKindsWrong : ChangeSpec := { name := "stepsKinds", fn := fun _ => fun
  | [d] => { results := [.lit (.bool false)], args := [d] }
  | _ => none }
def StepsKindsWrongFalsely : Prop := stepsKindsRow.holds Try.pinned (OpenSpec.ofChange stepsKindsWrong)

/-- 'penancelaw7.StepsBlocks': WHATEVER THE INPUT: true; the input reads as it did. -/
def stepsBlocksSpec : ChangeSpec := { name := "stepsBlocks", fn := fun _ => fun
  | [d1, d2] => { results := [.lit (.bool true)], args := [d1, d2] }
  | _ => none }
def stepsBlocksRow : OpenClaim := { program := "ytkagfenchknjjaa", sum := "c32d5864c0d78f843cfa5bae6f10cb363d08c0a343a57fdf959c4fa1936f4641", func := "penance/penancelaw7.StepsBlocks", spec := "stepsBlocks", unfollowed := true, recurses := true, loops := true, apart := false }
def StepsBlocksSaid : Prop := stepsBlocksRow.holds Try.pinned (OpenSpec.ofChange stepsBlocksSpec)

/-- ITS FALSE NEIGHBOUR: 'it returns false'. Refute it at one input. -/
def stepsBlocksWrong : ChangeSpec := { name := "stepsBlocks", fn := fun _ => fun
  | [d1, d2] => { results := [.lit (.bool false)], args := [d1, d2] }
  | _ => none }
def StepsBlocksWrongFalsely : Prop := stepsBlocksRow.holds Try.pinned (OpenSpec.ofChange stepsBlocksWrong)

/-- 'penancelaw7.StepsWait': WHATEVER THE INPUT: true; the input reads as it did. -/
def stepsWaitSpec : ChangeSpec := { name := "stepsWait", fn := fun _ => fun
  | [d] => { results := [.lit (.bool true)], args := [d] }
  | _ => none }
def stepsWaitRow : OpenClaim := { program := "ytkagfenchknjjaa", sum := "c32d5864c0d78f843cfa5bae6f10cb363d08c0a343a57fdf959c4fa1936f4641", func := "penance/penancelaw7.StepsWait", spec := "stepsWait", unfollowed := true, recurses := true, loops := true, apart := false }
def StepsWaitSaid : Prop := stepsWaitRow.holds Try.pinned (OpenSpec.ofChange stepsWaitSpec)

/-- ITS FALSE NEIGHBOUR: 'it returns false'. Refute it at one input. -/
def stepsWaitWrong : ChangeSpec := { name := "stepsWait", fn := fun _ => fun
  | [d] => { results := [.lit (.bool false)], args := [d] }
  | _ => none }
def StepsWaitWrongFalsely : Prop := stepsWaitRow.holds Try.pinned (OpenSpec.ofChange stepsWaitWrong)

/-- 'penancelaw7.StepsOrder': WHATEVER THE INPUT: true; the input reads as it did. -/
def stepsOrderSpec : ChangeSpec := { name := "stepsOrder", fn := fun _ => fun
  | [d1, d2] => { results := [.lit (.bool true)], args := [d1, d2] }
  | _ => none }
def stepsOrderRow : OpenClaim := { program := "ytkagfenchknjjaa", sum := "c32d5864c0d78f843cfa5bae6f10cb363d08c0a343a57fdf959c4fa1936f4641", func := "penance/penancelaw7.StepsOrder", spec := "stepsOrder", unfollowed := true, recurses := true, loops := true, apart := false }
def StepsOrderSaid : Prop := stepsOrderRow.holds Try.pinned (OpenSpec.ofChange stepsOrderSpec)

/-- ITS FALSE NEIGHBOUR: 'it returns false'. Refute it at one input. -/
def stepsOrderWrong : ChangeSpec := { name := "stepsOrder", fn := fun _ => fun
  | [d1, d2] => { results := [.lit (.bool false)], args := [d1, d2] }
  | _ => none }
def StepsOrderWrongFalsely : Prop := stepsOrderRow.holds Try.pinned (OpenSpec.ofChange stepsOrderWrong)

/-- 'penancelaw7.StepsRow': WHATEVER THE INPUT: true; the input reads as it did. -/
def stepsRowSpec : ChangeSpec := { name := "stepsRow", fn := fun _ => fun
  | [d1, d2, d3, d4] => { results := [.lit (.bool true)], args := [d1, d2, d3, d4] }
  | _ => none }
def stepsRowRow : OpenClaim := { program := "ytkagfenchknjjaa", sum := "c32d5864c0d78f843cfa5bae6f10cb363d08c0a343a57fdf959c4fa1936f4641", func := "penance/penancelaw7.StepsRow", spec := "stepsRow", unfollowed := true, recurses := true, loops := true, apart := false }
def StepsRowSaid : Prop := stepsRowRow.holds Try.pinned (OpenSpec.ofChange stepsRowSpec)

/-- ITS FALSE NEIGHBOUR: 'it returns false'. Refute it at one input. -/
def stepsRowWrong : ChangeSpec := { name := "stepsRow", fn := fun _ => fun
  | [d1, d2, d3, d4] => { results := [.lit (.bool false)], args := [d1, d2, d3, d4] }
  | _ => none }
def StepsRowWrongFalsely : Prop := stepsRowRow.holds Try.pinned (OpenSpec.ofChange stepsRowWrong)

/-- 'penancelaw5.TermAll': WHATEVER THE INPUT: true; the input reads as it did. -/
def termAllSpec : ChangeSpec := { name := "termAll", fn := fun _ => fun
  | [d1, d2, d3, d4, d5] => { results := [.lit (.bool true)], args := [d1, d2, d3, d4, d5] }
  | _ => none }
def termAllRow : OpenClaim := { program := "ytkagfenchknjjaa", sum := "c32d5864c0d78f843cfa5bae6f10cb363d08c0a343a57fdf959c4fa1936f4641", func := "penance/penancelaw5.TermAll", spec := "termAll", unfollowed := true, recurses := true, loops := true, apart := false }
def TermAllSaid : Prop := termAllRow.holds Try.pinned (OpenSpec.ofChange termAllSpec)

/-- ITS FALSE NEIGHBOUR: 'it returns false'. Refute it at one input. -/
def termAllWrong : ChangeSpec := { name := "termAll", fn := fun _ => fun
  | [d1, d2, d3, d4, d5] => { results := [.lit (.bool false)], args := [d1, d2, d3, d4, d5] }
  | _ => none }
def TermAllWrongFalsely : Prop := termAllRow.holds Try.pinned (OpenSpec.ofChange termAllWrong)

/-- 'penancelaw5.TermRaw': WHATEVER THE INPUT: true; the input reads as it did. -/
def termRawSpec : ChangeSpec := { name := "termRaw", fn := fun _ => fun
  | [d] => { results := [.lit (.bool true)], args := [d] }
  | _ => none }
def termRawRow : OpenClaim := { program := "ytkagfenchknjjaa", sum := "c32d5864c0d78f843cfa5bae6f10cb363d08c0a343a57fdf959c4fa1936f4641", func := "penance/penancelaw5.TermRaw", spec := "termRaw", unfollowed := true, recurses := true, loops := true, apart := false }
def TermRawSaid : Prop := termRawRow.holds Try.pinned (OpenSpec.ofChange termRawSpec)

/-- ITS FALSE NEIGHBOUR: 'it returns false'. Refute it at one input. -/
def termRawWrong : ChangeSpec := { name := "termRaw", fn := fun _ => fun
  | [d] => { results := [.lit (.bool false)], args := [d] }
  | _ => none }
def TermRawWrongFalsely : Prop := termRawRow.holds Try.pinned (OpenSpec.ofChange termRawWrong)

/-- 'penancelaw5.TermNorms': WHATEVER THE INPUT: true; the input reads as it did. -/
def termNormsSpec : ChangeSpec := { name := "termNorms", fn := fun _ => fun
  | [d1, d2] => { results := [.lit (.bool true)], args := [d1, d2] }
  | _ => none }
def termNormsRow : OpenClaim := { program := "ytkagfenchknjjaa", sum := "c32d5864c0d78f843cfa5bae6f10cb363d08c0a343a57fdf959c4fa1936f4641", func := "penance/penancelaw5.TermNorms", spec := "termNorms", unfollowed := true, recurses := true, loops := true, apart := false }
def TermNormsSaid : Prop := termNormsRow.holds Try.pinned (OpenSpec.ofChange termNormsSpec)

/-- ITS FALSE NEIGHBOUR: 'it returns false'. Refute it at one input. -/
def termNormsWrong : ChangeSpec := { name := "termNorms", fn := fun _ => fun
  | [d1, d2] => { results := [.lit (.bool false)], args := [d1, d2] }
  | _ => none }
def TermNormsWrongFalsely : Prop := termNormsRow.holds Try.pinned (OpenSpec.ofChange termNormsWrong)

/-- 'penancelaw5.TermWaits': WHATEVER THE INPUT: true; the input reads as it did. -/
def termWaitsSpec : ChangeSpec := { name := "termWaits", fn := fun _ => fun
  | [d1, d2, d3, d4] => { results := [.lit (.bool true)], args := [d1, d2, d3, d4] }
  | _ => none }
def termWaitsRow : OpenClaim := { program := "ytkagfenchknjjaa", sum := "c32d5864c0d78f843cfa5bae6f10cb363d08c0a343a57fdf959c4fa1936f4641", func := "penance/penancelaw5.TermWaits", spec := "termWaits", unfollowed := true, recurses := true, loops := true, apart := false }
def TermWaitsSaid : Prop := termWaitsRow.holds Try.pinned (OpenSpec.ofChange termWaitsSpec)

/-- ITS FALSE NEIGHBOUR: 'it returns false'. Refute it at one input. -/
def termWaitsWrong : ChangeSpec := { name := "termWaits", fn := fun _ => fun
  | [d1, d2, d3, d4] => { results := [.lit (.bool false)], args := [d1, d2, d3, d4] }
  | _ => none }
def TermWaitsWrongFalsely : Prop := termWaitsRow.holds Try.pinned (OpenSpec.ofChange termWaitsWrong)

/-- 'penancelaw5.TermSizes': WHATEVER THE INPUT: true; the input reads as it did. -/
def termSizesSpec : ChangeSpec := { name := "termSizes", fn := fun _ => fun
  | [d1, d2, d3] => { results := [.lit (.bool true)], args := [d1, d2, d3] }
  | _ => none }
def termSizesRow : OpenClaim := { program := "ytkagfenchknjjaa", sum := "c32d5864c0d78f843cfa5bae6f10cb363d08c0a343a57fdf959c4fa1936f4641", func := "penance/penancelaw5.TermSizes", spec := "termSizes", unfollowed := true, recurses := true, loops := true, apart := false }
def TermSizesSaid : Prop := termSizesRow.holds Try.pinned (OpenSpec.ofChange termSizesSpec)

/-- ITS FALSE NEIGHBOUR: 'it returns false'. Refute it at one input. -/
def termSizesWrong : ChangeSpec := { name := "termSizes", fn := fun _ => fun
  | [d1, d2, d3] => { results := [.lit (.bool false)], args := [d1, d2, d3] }
  | _ => none }
def TermSizesWrongFalsely : Prop := termSizesRow.holds Try.pinned (OpenSpec.ofChange termSizesWrong)

/-- 'penancelaw5.TermSame': WHATEVER THE INPUT: true; the input reads as it did. -/
def termSameSpec : ChangeSpec := { name := "termSame", fn := fun _ => fun
  | [d1, d2, d3, d4, d5] => { results := [.lit (.bool true)], args := [d1, d2, d3, d4, d5] }
  | _ => none }
def termSameRow : OpenClaim := { program := "ytkagfenchknjjaa", sum := "c32d5864c0d78f843cfa5bae6f10cb363d08c0a343a57fdf959c4fa1936f4641", func := "penance/penancelaw5.TermSame", spec := "termSame", unfollowed := true, recurses := true, loops := true, apart := false }
def TermSameSaid : Prop := termSameRow.holds Try.pinned (OpenSpec.ofChange termSameSpec)

/-- ITS FALSE NEIGHBOUR: 'it returns false'. Refute it at one input. -/
def termSameWrong : ChangeSpec := { name := "termSame", fn := fun _ => fun
  | [d1, d2, d3, d4, d5] => { results := [.lit (.bool false)], args := [d1, d2, d3, d4, d5] }
  | _ => none }
def TermSameWrongFalsely : Prop := termSameRow.holds Try.pinned (OpenSpec.ofChange termSameWrong)

/-- 'penancelaw5.TermBounds': WHATEVER THE INPUT: true; the input reads as it did. -/
def termBoundsSpec : ChangeSpec := { name := "termBounds", fn := fun _ => fun
  | [d1, d2, d3, d4, d5] => { results := [.lit (.bool true)], args := [d1, d2, d3, d4, d5] }
  | _ => none }
def termBoundsRow : OpenClaim := { program := "ytkagfenchknjjaa", sum := "c32d5864c0d78f843cfa5bae6f10cb363d08c0a343a57fdf959c4fa1936f4641", func := "penance/penancelaw5.TermBounds", spec := "termBounds", unfollowed := true, recurses := true, loops := true, apart := false }
def TermBoundsSaid : Prop := termBoundsRow.holds Try.pinned (OpenSpec.ofChange termBoundsSpec)

/-- ITS FALSE NEIGHBOUR: 'it returns false'. Refute it at one input. -/
def termBoundsWrong : ChangeSpec := { name := "termBounds", fn := fun _ => fun
  | [d1, d2, d3, d4, d5] => { results := [.lit (.bool false)], args := [d1, d2, d3, d4, d5] }
  | _ => none }
def TermBoundsWrongFalsely : Prop := termBoundsRow.holds Try.pinned (OpenSpec.ofChange termBoundsWrong)

/-- 'penancelaw5.TermSkips': WHATEVER THE INPUT: true; the input reads as it did. -/
def termSkipsSpec : ChangeSpec := { name := "termSkips", fn := fun _ => fun
  | [d] => { results := [.lit (.bool true)], args := [d] }
  | _ => none }
def termSkipsRow : OpenClaim := { program := "ytkagfenchknjjaa", sum := "c32d5864c0d78f843cfa5bae6f10cb363d08c0a343a57fdf959c4fa1936f4641", func := "penance/penancelaw5.TermSkips", spec := "termSkips", unfollowed := true, recurses := true, apart := false }
def TermSkipsSaid : Prop := termSkipsRow.holds Try.pinned (OpenSpec.ofChange termSkipsSpec)

/-- ITS FALSE NEIGHBOUR: 'it returns false'. Refute it at one input. -/
def termSkipsWrong : ChangeSpec := { name := "termSkips", fn := fun _ => fun
  | [d] => { results := [.lit (.bool false)], args := [d] }
  | _ => none }
def TermSkipsWrongFalsely : Prop := termSkipsRow.holds Try.pinned (OpenSpec.ofChange termSkipsWrong)

/- THE SECOND FORM. 'bulk': how many values and letters a reading holds, each counted each time it is reached (what is shared counts as often as it is met; a slice's spare places count too). A statement '..UptoSaid' is the law's where the arguments, and the package variables that the reading takes, are together of bulk at most 1048576: NARROWER than '..Said'. Prove '..Said' where nothing that the law and all that it calls make is longer than what came in: it says more and counts as full. Else prove '..UptoSaid'. A law counts once. -/
mutual
def uptoBulk {H : Type} : DataW H → Nat
  | .lit (.string bytes) => bytes.length + 1
  | .lit _ => 1
  | .nil => 1
  | .ptr d => uptoBulk d + 1
  | .slice elems spare => uptoBulkAll elems + uptoBulkAll spare + 1
  | .agg parts => uptoBulkAll parts + 1
  | .iface _ d => uptoBulk d + 1
  | .map entries => uptoBulkEntries entries + 1
  | .held _ => 1
def uptoBulkAll {H : Type} : List (DataW H) → Nat
  | [] => 0
  | d :: r => uptoBulk d + uptoBulkAll r
def uptoBulkEntries {H : Type} : List (Lit × DataW H) → Nat
  | [] => 0
  | x :: r => uptoBulkEntry x + uptoBulkEntries r
def uptoBulkEntry {H : Type} : Lit × DataW H → Nat
  | (.string bytes, d) => bytes.length + uptoBulk d + 1
  | (_, d) => uptoBulk d + 1
 end
def uptoSmall : (H : Type) → List (DataW H) → Bool := fun _ ds => decide (uptoBulkAll ds ≤ 1048576)
def OpenSpec.upto (s : _root_.Go.ChangeSpec) : _root_.Go.OpenSpec := { _root_.Go.OpenSpec.ofChange s with cond := some uptoSmall }

/-- 'penancelaw7.StepsPlaces', WHERE WHAT IT READS IS OF BULK AT MOST 1048576: true; the input reads as it did. -/
def stepsPlacesUptoRow : OpenClaim := { program := "ytkagfenchknjjaa", sum := "c32d5864c0d78f843cfa5bae6f10cb363d08c0a343a57fdf959c4fa1936f4641", func := "penance/penancelaw7.StepsPlaces", spec := "stepsPlaces", unfollowed := true, recurses := true, loops := true, apart := false, narrowed := true }
def StepsPlacesUptoSaid : Prop := stepsPlacesUptoRow.holds Try.pinned (OpenSpec.upto stepsPlacesSpec)

/-- 'penancelaw7.StepsPar', WHERE WHAT IT READS IS OF BULK AT MOST 1048576: true; the input reads as it did. -/
def stepsParUptoRow : OpenClaim := { program := "ytkagfenchknjjaa", sum := "c32d5864c0d78f843cfa5bae6f10cb363d08c0a343a57fdf959c4fa1936f4641", func := "penance/penancelaw7.StepsPar", spec := "stepsPar", unfollowed := true, recurses := true, loops := true, apart := false, narrowed := true }
def StepsParUptoSaid : Prop := stepsParUptoRow.holds Try.pinned (OpenSpec.upto stepsParSpec)

/-- 'penancelaw7.StepsExit', WHERE WHAT IT READS IS OF BULK AT MOST 1048576: true; the input reads as it did. -/
def stepsExitUptoRow : OpenClaim := { program := "ytkagfenchknjjaa", sum := "c32d5864c0d78f843cfa5bae6f10cb363d08c0a343a57fdf959c4fa1936f4641", func := "penance/penancelaw7.StepsExit", spec := "stepsExit", unfollowed := true, recurses := true, apart := false, narrowed := true }
def StepsExitUptoSaid : Prop := stepsExitUptoRow.holds Try.pinned (OpenSpec.upto stepsExitSpec)

/-- 'penancelaw7.StepsStatus', WHERE WHAT IT READS IS OF BULK AT MOST 1048576: true; the input reads as it did. -/
def stepsStatusUptoRow : OpenClaim := { program := "ytkagfenchknjjaa", sum := "c32d5864c0d78f843cfa5bae6f10cb363d08c0a343a57fdf959c4fa1936f4641", func := "penance/penancelaw7.StepsStatus", spec := "stepsStatus", unfollowed := true, recurses := true, loops := true, apart := false, narrowed := true }
def StepsStatusUptoSaid : Prop := stepsStatusUptoRow.holds Try.pinned (OpenSpec.upto stepsStatusSpec)

/-- 'penancelaw7.StepsKinds', WHERE WHAT IT READS IS OF BULK AT MOST 1048576: true; the input reads as it did. -/
def stepsKindsUptoRow : OpenClaim := { program := "ytkagfenchknjjaa", sum := "c32d5864c0d78f843cfa5bae6f10cb363d08c0a343a57fdf959c4fa1936f4641", func := "penance/penancelaw7.StepsKinds", spec := "stepsKinds", unfollowed := true, recurses := true, apart := false, narrowed := true }
def StepsKindsUptoSaid : Prop := stepsKindsUptoRow.holds Try.pinned (OpenSpec.upto stepsKindsSpec)

/-- 'penancelaw7.StepsBlocks', WHERE WHAT IT READS IS OF BULK AT MOST 1048576: true; the input reads as it did. -/
def stepsBlocksUptoRow : OpenClaim := { program := "ytkagfenchknjjaa", sum := "c32d5864c0d78f843cfa5bae6f10cb363d08c0a343a57fdf959c4fa1936f4641", func := "penance/penancelaw7.StepsBlocks", spec := "stepsBlocks", unfollowed := true, recurses := true, loops := true, apart := false, narrowed := true }
def StepsBlocksUptoSaid : Prop := stepsBlocksUptoRow.holds Try.pinned (OpenSpec.upto stepsBlocksSpec)

/-- 'penancelaw7.StepsWait', WHERE WHAT IT READS IS OF BULK AT MOST 1048576: true; the input reads as it did. -/
def stepsWaitUptoRow : OpenClaim := { program := "ytkagfenchknjjaa", sum := "c32d5864c0d78f843cfa5bae6f10cb363d08c0a343a57fdf959c4fa1936f4641", func := "penance/penancelaw7.StepsWait", spec := "stepsWait", unfollowed := true, recurses := true, loops := true, apart := false, narrowed := true }
def StepsWaitUptoSaid : Prop := stepsWaitUptoRow.holds Try.pinned (OpenSpec.upto stepsWaitSpec)

/-- 'penancelaw7.StepsOrder', WHERE WHAT IT READS IS OF BULK AT MOST 1048576: true; the input reads as it did. -/
def stepsOrderUptoRow : OpenClaim := { program := "ytkagfenchknjjaa", sum := "c32d5864c0d78f843cfa5bae6f10cb363d08c0a343a57fdf959c4fa1936f4641", func := "penance/penancelaw7.StepsOrder", spec := "stepsOrder", unfollowed := true, recurses := true, loops := true, apart := false, narrowed := true }
def StepsOrderUptoSaid : Prop := stepsOrderUptoRow.holds Try.pinned (OpenSpec.upto stepsOrderSpec)

/-- 'penancelaw7.StepsRow', WHERE WHAT IT READS IS OF BULK AT MOST 1048576: true; the input reads as it did. -/
def stepsRowUptoRow : OpenClaim := { program := "ytkagfenchknjjaa", sum := "c32d5864c0d78f843cfa5bae6f10cb363d08c0a343a57fdf959c4fa1936f4641", func := "penance/penancelaw7.StepsRow", spec := "stepsRow", unfollowed := true, recurses := true, loops := true, apart := false, narrowed := true }
def StepsRowUptoSaid : Prop := stepsRowUptoRow.holds Try.pinned (OpenSpec.upto stepsRowSpec)

/-- 'penancelaw5.TermAll', WHERE WHAT IT READS IS OF BULK AT MOST 1048576: true; the input reads as it did. -/
def termAllUptoRow : OpenClaim := { program := "ytkagfenchknjjaa", sum := "c32d5864c0d78f843cfa5bae6f10cb363d08c0a343a57fdf959c4fa1936f4641", func := "penance/penancelaw5.TermAll", spec := "termAll", unfollowed := true, recurses := true, loops := true, apart := false, narrowed := true }
def TermAllUptoSaid : Prop := termAllUptoRow.holds Try.pinned (OpenSpec.upto termAllSpec)

/-- 'penancelaw5.TermRaw', WHERE WHAT IT READS IS OF BULK AT MOST 1048576: true; the input reads as it did. -/
def termRawUptoRow : OpenClaim := { program := "ytkagfenchknjjaa", sum := "c32d5864c0d78f843cfa5bae6f10cb363d08c0a343a57fdf959c4fa1936f4641", func := "penance/penancelaw5.TermRaw", spec := "termRaw", unfollowed := true, recurses := true, loops := true, apart := false, narrowed := true }
def TermRawUptoSaid : Prop := termRawUptoRow.holds Try.pinned (OpenSpec.upto termRawSpec)

/-- 'penancelaw5.TermNorms', WHERE WHAT IT READS IS OF BULK AT MOST 1048576: true; the input reads as it did. -/
def termNormsUptoRow : OpenClaim := { program := "ytkagfenchknjjaa", sum := "c32d5864c0d78f843cfa5bae6f10cb363d08c0a343a57fdf959c4fa1936f4641", func := "penance/penancelaw5.TermNorms", spec := "termNorms", unfollowed := true, recurses := true, loops := true, apart := false, narrowed := true }
def TermNormsUptoSaid : Prop := termNormsUptoRow.holds Try.pinned (OpenSpec.upto termNormsSpec)

/-- 'penancelaw5.TermWaits', WHERE WHAT IT READS IS OF BULK AT MOST 1048576: true; the input reads as it did. -/
def termWaitsUptoRow : OpenClaim := { program := "ytkagfenchknjjaa", sum := "c32d5864c0d78f843cfa5bae6f10cb363d08c0a343a57fdf959c4fa1936f4641", func := "penance/penancelaw5.TermWaits", spec := "termWaits", unfollowed := true, recurses := true, loops := true, apart := false, narrowed := true }
def TermWaitsUptoSaid : Prop := termWaitsUptoRow.holds Try.pinned (OpenSpec.upto termWaitsSpec)

/-- 'penancelaw5.TermSizes', WHERE WHAT IT READS IS OF BULK AT MOST 1048576: true; the input reads as it did. -/
def termSizesUptoRow : OpenClaim := { program := "ytkagfenchknjjaa", sum := "c32d5864c0d78f843cfa5bae6f10cb363d08c0a343a57fdf959c4fa1936f4641", func := "penance/penancelaw5.TermSizes", spec := "termSizes", unfollowed := true, recurses := true, loops := true, apart := false, narrowed := true }
def TermSizesUptoSaid : Prop := termSizesUptoRow.holds Try.pinned (OpenSpec.upto termSizesSpec)

/-- 'penancelaw5.TermSame', WHERE WHAT IT READS IS OF BULK AT MOST 1048576: true; the input reads as it did. -/
def termSameUptoRow : OpenClaim := { program := "ytkagfenchknjjaa", sum := "c32d5864c0d78f843cfa5bae6f10cb363d08c0a343a57fdf959c4fa1936f4641", func := "penance/penancelaw5.TermSame", spec := "termSame", unfollowed := true, recurses := true, loops := true, apart := false, narrowed := true }
def TermSameUptoSaid : Prop := termSameUptoRow.holds Try.pinned (OpenSpec.upto termSameSpec)

/-- 'penancelaw5.TermBounds', WHERE WHAT IT READS IS OF BULK AT MOST 1048576: true; the input reads as it did. -/
def termBoundsUptoRow : OpenClaim := { program := "ytkagfenchknjjaa", sum := "c32d5864c0d78f843cfa5bae6f10cb363d08c0a343a57fdf959c4fa1936f4641", func := "penance/penancelaw5.TermBounds", spec := "termBounds", unfollowed := true, recurses := true, loops := true, apart := false, narrowed := true }
def TermBoundsUptoSaid : Prop := termBoundsUptoRow.holds Try.pinned (OpenSpec.upto termBoundsSpec)

/-- 'penancelaw5.TermSkips', WHERE WHAT IT READS IS OF BULK AT MOST 1048576: true; the input reads as it did. -/
def termSkipsUptoRow : OpenClaim := { program := "ytkagfenchknjjaa", sum := "c32d5864c0d78f843cfa5bae6f10cb363d08c0a343a57fdf959c4fa1936f4641", func := "penance/penancelaw5.TermSkips", spec := "termSkips", unfollowed := true, recurses := true, apart := false, narrowed := true }
def TermSkipsUptoSaid : Prop := termSkipsUptoRow.holds Try.pinned (OpenSpec.upto termSkipsSpec)

end Rows
end Go.Proofs.Ytkagfenchknjjaa
