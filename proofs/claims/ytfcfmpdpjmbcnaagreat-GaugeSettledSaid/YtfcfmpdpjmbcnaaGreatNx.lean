/- Calls whose result holds a slice of its own. Nothing of the program. -/
import Derived.Test.YtfcfmpdpjmbcnaaGreatM9
set_option linter.unusedVariables false
set_option linter.unusedSimpArgs false
namespace Go.Proofs.YtfcfmpdpjmbcnaaGreat
open Go.RowKit

end Go.Proofs.YtfcfmpdpjmbcnaaGreat
