/- Heat along a roll. -/
import Derived.Test.YtagpmpbmfjaiiaaGreatDoorPb
set_option linter.unusedVariables false
set_option linter.unusedSimpArgs false
namespace Go.Proofs.YtagpmpbmfjaiiaaGreatDoor
open Go.RowKit
set_option maxRecDepth 20000
set_option maxHeartbeats 8000000

theorem mul_rng {x e : Int} (A B : Nat) (h1 : x.natAbs ≤ A) (h2 : e.natAbs ≤ B) : (x * e).natAbs ≤ A * B := by rw [Int.natAbs_mul]; exact Nat.mul_le_mul h1 h2
structure HeatOk (t : List Int) (a c b : Int) : Prop where
  l2 : 2 ≤ t.length
  l9 : t.length ≤ 9
  tb : ∀ x ∈ t, -100000 ≤ x ∧ x ≤ 100000
  a : -100000 ≤ a ∧ a ≤ 100000
  c : 0 ≤ c ∧ c ≤ 1000
  b : 0 ≤ b ∧ b ≤ 1000

end Go.Proofs.YtagpmpbmfjaiiaaGreatDoor
