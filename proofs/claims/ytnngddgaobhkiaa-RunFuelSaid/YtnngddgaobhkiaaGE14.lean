import Derived.Test.YtnngddgaobhkiaaGJ13
import Derived.Test.YtnngddgaobhkiaaGQ10
import Derived.Test.YtnngddgaobhkiaaGW7
import Derived.Test.YtnngddgaobhkiaaGW8
set_option linter.unusedVariables false
set_option linter.unusedSimpArgs false
namespace Go.Proofs.Ytnngddgaobhkiaa
open Go Go.Am Go.RowKit


def aN (t : Tm) : Nat := if t.kind = 12 ∨ t.kind = 7 then 1 else if t.kind = 11 then 2 else 0
def wk (t : Tm) (i : Nat) : List Int := (t.l.take i).flatMap Tm.waits
@[simp] theorem encI_cells' (p : List Int) : (∀ x ∈ encI p, x.length = 1 ∧ ∀ c ∈ x, c.cell = true) ↔ True := ⟨fun _ => trivial, fun _ => encI_cell p⟩
end Go.Proofs.Ytnngddgaobhkiaa
set_option linter.unusedVariables false
set_option linter.unusedSimpArgs false
namespace Go.Proofs.Ytnngddgaobhkiaa
open Go Go.Am Go.RowKit


end Go.Proofs.Ytnngddgaobhkiaa
