/- Tolerances: the reference of contradictions: the walk. -/
import Derived.Test.YtagpmpbmfjaiiaaTw
set_option linter.unusedVariables false
set_option linter.unusedSimpArgs false
namespace Go.Proofs.Ytagpmpbmfjaiiaa
open Go.RowKit
set_option maxRecDepth 20000
set_option maxHeartbeats 8000000

def pickM (l : List Int) : Option (List Int) → Option (List Int)
  | none => some l
  | some b => bif better l b then some l else some b
end Go.Proofs.Ytagpmpbmfjaiiaa
