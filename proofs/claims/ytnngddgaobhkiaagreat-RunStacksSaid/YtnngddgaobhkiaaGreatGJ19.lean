import Derived.Test.YtnngddgaobhkiaaGreatGJ13
import Derived.Test.YtnngddgaobhkiaaGreatGH15
set_option linter.unusedVariables false
set_option linter.unusedSimpArgs false
namespace Go.Proofs.YtnngddgaobhkiaaGreat
open Go Go.Am Go.RowKit
end Go.Proofs.YtnngddgaobhkiaaGreat
