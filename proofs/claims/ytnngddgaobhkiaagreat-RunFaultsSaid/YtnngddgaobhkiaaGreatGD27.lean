import Derived.Test.YtnngddgaobhkiaaGreatGR26
import Derived.Test.YtnngddgaobhkiaaGreatGD22
set_option linter.unusedVariables false
set_option linter.unusedSimpArgs false
namespace Go.Proofs.YtnngddgaobhkiaaGreat
open Go Go.Am Go.RowKit Go.ChangeShapes Go.WideShapes Go.ChangeAt
/-! ### Shapes that are handed in -/
structure Shp where
 mk ::
 v:Int
 s:Int
 bs:List Rw3
def encShp (x:Shp):List AV:=encSh x.v x.s x.bs
end Go.Proofs.YtnngddgaobhkiaaGreat
