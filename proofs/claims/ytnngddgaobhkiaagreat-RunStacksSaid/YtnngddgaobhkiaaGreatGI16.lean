import Derived.Test.YtnngddgaobhkiaaGreatGH15
set_option linter.unusedVariables false
set_option linter.unusedSimpArgs false
namespace Go.Proofs.YtnngddgaobhkiaaGreat
open Go Go.Am Go.RowKit
/-! ### What is reckoned, as the document says -/
end Go.Proofs.YtnngddgaobhkiaaGreat
