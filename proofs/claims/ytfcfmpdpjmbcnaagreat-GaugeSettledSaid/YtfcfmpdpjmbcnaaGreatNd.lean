/- Calls whose result holds a slice of its own beside other slices. Nothing of the program. -/
import Derived.Test.YtfcfmpdpjmbcnaaGreatNx
set_option linter.unusedVariables false
set_option linter.unusedSimpArgs false
namespace Go.Proofs.YtfcfmpdpjmbcnaaGreat
open Go.RowKit

end Go.Proofs.YtfcfmpdpjmbcnaaGreat
