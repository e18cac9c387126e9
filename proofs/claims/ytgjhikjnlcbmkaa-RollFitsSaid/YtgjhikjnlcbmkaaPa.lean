/- Names that the texts on wide numbers want. -/
import Derived.Test.YtgjhikjnlcbmkaaW1
set_option linter.unusedVariables false
set_option linter.unusedSimpArgs false
namespace Go.Proofs.Ytgjhikjnlcbmkaa
open Go.RowKit
theorem bsize_A (n : Int) (hn : Sm n) : AC Try.prog 78 [I n] (I n.natAbs) := size_A n hn

end Go.Proofs.Ytgjhikjnlcbmkaa
