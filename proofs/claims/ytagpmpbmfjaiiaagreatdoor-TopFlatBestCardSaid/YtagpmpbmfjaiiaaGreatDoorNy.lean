/- Numerals, by the reference: Number. Printed by wip/gennum.py. -/
import Derived.Test.YtagpmpbmfjaiiaaGreatDoorNw
set_option linter.unusedVariables false
set_option linter.unusedSimpArgs false
namespace Go.Proofs.YtagpmpbmfjaiiaaGreatDoor
open Go.RowKit
set_option maxRecDepth 20000
set_option maxHeartbeats 8000000

end Go.Proofs.YtagpmpbmfjaiiaaGreatDoor
