import Derived.Test.YtnngddgaobhkiaaGreatGL25
import Derived.Test.YtnngddgaobhkiaaGreatGQ11
import Derived.Test.YtnngddgaobhkiaaGreatGW8
import Derived.Test.YtnngddgaobhkiaaGreatGW9
import Derived.ReadAgain
set_option linter.unusedVariables false
set_option linter.unusedSimpArgs false
namespace Go.Proofs.YtnngddgaobhkiaaGreat
open Go Go.Am Go.RowKit Go.ChangeShapes Go.WideShapes Go.ChangeAt
theorem ul3:Tryz.prog.underlying 3 = some (.int .i64):=by kernel_rfl
theorem rdv_int:RdV Tryz.prog 3 (fun i=>.int .i64 i) fun i=>(Lit.int .i64 i).wf = true:=.int ul3
theorem prog_laid:laidOutB Tryz.prog = true:=by kernel_rfl
theorem prog_mapsRowed:mapsRowed Tryz.prog = true:=by kernel_rfl
theorem prog_full:∀ t e,t < Tryz.prog.types.size → Tryz.prog.underlying t = some (.slice e) → 0 < Tryz.prog.cellsOf e:=slices_full_of Tryz.prog (by kernel_rfl)
end Go.Proofs.YtnngddgaobhkiaaGreat
