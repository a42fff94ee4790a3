import Derived.Test.YtahchfkmpcfefaaGL13
import Derived.Test.YtahchfkmpcfefaaGQ11
import Derived.Test.YtahchfkmpcfefaaGW9
import Derived.ReadAgain
set_option linter.unusedVariables false
set_option linter.unusedSimpArgs false
namespace Go.Proofs.Ytahchfkmpcfefaa
open Go Go.Am Go.RowKit Go.ChangeShapes Go.WideShapes Go.ChangeAt
theorem ul3:Try.prog.underlying 3 = some (.int .i64):=by kernel_rfl
theorem rdv_int:RdV Try.prog 3 (fun i=>.int .i64 i) fun i=>(Lit.int .i64 i).wf = true:=.int ul3
theorem prog_laid:laidOutB Try.prog = true:=by kernel_rfl
theorem prog_mapsRowed:mapsRowed Try.prog = true:=by kernel_rfl
theorem prog_full:∀ t e,t < Try.prog.types.size → Try.prog.underlying t = some (.slice e) → 0 < Try.prog.cellsOf e:=slices_full_of Try.prog (by kernel_rfl)
end Go.Proofs.Ytahchfkmpcfefaa
