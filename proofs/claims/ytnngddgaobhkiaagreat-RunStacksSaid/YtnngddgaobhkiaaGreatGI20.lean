import Derived.Test.YtnngddgaobhkiaaGreatGI18
import Derived.Test.YtnngddgaobhkiaaGreatGH17
import Derived.Test.YtnngddgaobhkiaaGreatGJ19
set_option linter.unusedVariables false
set_option linter.unusedSimpArgs false
namespace Go.Proofs.YtnngddgaobhkiaaGreat
open Go Go.Am Go.RowKit
/-! ### A step that is done, as the document says -/
def dR (cs:List AV) (ev:Ev) (is:Bool) (e:Int):List AV:=cs ++ (encEv ev ++ [.bool is,.int .i64 e])
def d8H (c:Cor) (f g:Cfg) (vars:List Int) (B:List AV) (x:Tm) (t:Tm) (v3 v4 v6 v7 v10 v12 v14 v15 v37:Nat):List (Nat × Blk):=
 [(3,.box v3 29 (encC c)),(4,.box v4 38 (encF f)),(6,.box v6 38 [.int .i64 0,.int .i64 0,.int .i64 0,.str ⟨#[]⟩,.int .i64 0,.int .i64 0,.str ⟨#[]⟩,.nils,.nils,.nils,.nils,.int .i64 0,.int .i64 0]),
  (7,.box v7 44 [.str ⟨#[]⟩,.int .i64 0,.int .i64 0]),(10,.box v10 35 (encT t)),(12,.box v12 38 (encFL g 37 v37)),(37,.row v37 3 1 (encI vars)),
  (14,.box v14 35 (encT x)),(15,.box v15 107 B)]
end Go.Proofs.YtnngddgaobhkiaaGreat
