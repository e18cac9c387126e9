/- The law FlatHeats: what it answers. -/
import Derived.Test.YtagpmpbmfjaiiaaGreatDoorPt
set_option linter.unusedVariables false
set_option linter.unusedSimpArgs false
namespace Go.Proofs.YtagpmpbmfjaiiaaGreatDoor
open Go.RowKit
set_option maxRecDepth 20000
set_option maxHeartbeats 8000000

theorem fst0_skip {b : Bool} {n : Int} {l : List Int} (h : b = true) : fst0 (unl b n :: l) = fst0 l := by subst h; rfl
theorem fst0_stop {b : Bool} {n : Int} {l : List Int} (hn : n ≠ 0) (h : b = false) : fst0 (unl b n :: l) = n := by
  subst h; exact fst0_ne hn l
end Go.Proofs.YtagpmpbmfjaiiaaGreatDoor
