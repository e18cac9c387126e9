/- The smallest box that is kept: walk. -/
import Derived.Test.YtiabcffcbhlbiaaUh
set_option linter.unusedVariables false
set_option linter.unusedSimpArgs false
namespace Go.Proofs.Ytiabcffcbhlbiaa
open Go.RowKit
set_option maxRecDepth 20000
set_option maxHeartbeats 8000000

/-! Which chains are valid. -/
end Go.Proofs.Ytiabcffcbhlbiaa
