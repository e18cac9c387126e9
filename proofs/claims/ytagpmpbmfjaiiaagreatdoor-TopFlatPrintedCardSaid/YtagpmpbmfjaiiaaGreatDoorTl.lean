/- The law FlatContours: what it answers. -/
import Derived.Test.YtagpmpbmfjaiiaaGreatDoorTj
import Derived.Test.YtagpmpbmfjaiiaaGreatDoorPs
set_option linter.unusedVariables false
set_option linter.unusedSimpArgs false
namespace Go.Proofs.YtagpmpbmfjaiiaaGreatDoor
open Go.RowKit
set_option maxRecDepth 20000
set_option maxHeartbeats 8000000

theorem wornL_len : ∀ (l : List Strp) (c : List (Int × Int)), (wornL l c).1.length ≤ c.length
  | [], c => Nat.le_refl _
  | s :: l, c => by
    by_cases h : stpE s = 0
    · rw [wornL_zero h]
      have := wornL_len l (c.map (wearP s))
      simpa using this
    · rw [wornL_ne rfl h]; exact Nat.zero_le _
end Go.Proofs.YtagpmpbmfjaiiaaGreatDoor
