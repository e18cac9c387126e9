/- Heat after steps. -/
import Derived.Test.YtagpmpbmfjaiiaaGreatDoorPg
set_option linter.unusedVariables false
set_option linter.unusedSimpArgs false
namespace Go.Proofs.YtagpmpbmfjaiiaaGreatDoor
open Go.RowKit
set_option maxRecDepth 20000
set_option maxHeartbeats 8000000

theorem ivs_flat (xs : List Int) : DV.flatL (ivs xs) = true := by
  induction xs with
  | nil => rfl
  | cons x xs ih => exact ih
theorem any_sized {xs : List Int} {m : Int} (h : ∀ x ∈ xs, -m ≤ x ∧ x ≤ m) : (xs.any fun x => !inR x (-m) m) = false := by
  rw [List.any_eq_false]
  intro x hx
  rw [inR_iff.2 (h x hx)]; simp
end Go.Proofs.YtagpmpbmfjaiiaaGreatDoor
