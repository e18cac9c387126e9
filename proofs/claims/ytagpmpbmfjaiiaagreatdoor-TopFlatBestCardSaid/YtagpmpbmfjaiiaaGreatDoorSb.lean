/- Strings of flat rolls: lists of numbers read, by the reference. -/
import Derived.Test.YtagpmpbmfjaiiaaGreatDoorNh
import Derived.Test.YtagpmpbmfjaiiaaGreatDoorNy
set_option linter.unusedVariables false
set_option linter.unusedSimpArgs false
namespace Go.Proofs.YtagpmpbmfjaiiaaGreatDoor
open Go.RowKit
set_option maxRecDepth 20000
set_option maxHeartbeats 4000000

theorem parL_none {sg : Bool} {D : Nat} {s : List UInt8} {i : Nat} (hi : i < (cutA 32 [] s).length) (h : numS sg D ((cutA 32 [] s).getD i []) = none) : parL sg D s = none := by
  refine numsL_none sg D _ _ ?_ h
  rw [List.getD_eq_getElem?_getD, List.getElem?_eq_getElem hi]
  exact List.getElem_mem hi
end Go.Proofs.YtagpmpbmfjaiiaaGreatDoor
