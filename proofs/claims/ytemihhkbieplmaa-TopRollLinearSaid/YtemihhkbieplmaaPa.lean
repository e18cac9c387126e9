/- Names that the texts on wide numbers want. -/
import Derived.Test.YtemihhkbieplmaaW1
set_option linter.unusedVariables false
set_option linter.unusedSimpArgs false
namespace Go.Proofs.Ytemihhkbieplmaa
open Go.RowKit
theorem bsize_A (n : Int) (hn : Sm n) : AC Try.prog 64 [I n] (I n.natAbs) := size_A n hn

end Go.Proofs.Ytemihhkbieplmaa
