/- The law FlatProfiles: what it answers. -/
import Derived.Test.YtagpmpbmfjaiiaaGreatDoorPs
set_option linter.unusedVariables false
set_option linter.unusedSimpArgs false
namespace Go.Proofs.YtagpmpbmfjaiiaaGreatDoor
open Go.RowKit
set_option maxRecDepth 20000
set_option maxHeartbeats 8000000

theorem short_A (p : List Int) : AC Tryz.prog 8 [isl p] (B (decide ((p.length : Int) ≤ 12))) := by
  refine ac_body Tryz.func8 rfl (by kernel_rfl) fun w0 ok => ?_; show AWp _ (ctx0 w0 ok _) _ (ARet _ _ _) (entry _)
  (repeat' (first | (with_reducible first | intro hg | refine mv (by constructor) ?_) | ((with_reducible first | refine zR ?_ ?_ | refine zW mixed ?_ ?_); exact kr) | ((with_reducible apply zK); exact rfl; exact tf) | ((with_reducible apply zCD); exact rfl) | ((with_reducible apply zCN); exact rfl) | ((with_reducible apply zC); exact rfl) | ((with_reducible refine zX ?_ ?_); exact rfl) | ((with_reducible refine zE (And.intro ?_ ?_)); exact kr) | (with_reducible refine zE ?_) | ((with_reducible apply zP); exact dp) | ((with_reducible apply zN); exact dn) | ((with_reducible apply zA); exact da) | ((with_reducible apply zS); exact ds) | ((with_reducible apply zY); exact rfl; exact rfl; exact tf) | ((with_reducible apply zG); exact rfl; exact rfl; exact tf) | ((with_reducible apply zU); exact rfl; exact rfl) | ((with_reducible apply zD); exact rfl; exact rfl) | ((with_reducible apply zB); exact rfl; exact rfl)))
  ((with_reducible first | apply q_retR | apply q_retN); exact rl)
  rfl
theorem any_step {f : Int → Bool} {p : List Int} {k : Nat} (h : k < p.length) : (p.drop k).any f = (f (nth p k) || (p.drop (k + 1)).any f) := by
  rw [drop_getD h]; rfl
theorem any_end {f : Int → Bool} {p : List Int} {k : Nat} (h : ¬ k < p.length) : (p.drop k).any f = false := by
  rw [List.drop_of_length_le (by omega)]; rfl
end Go.Proofs.YtagpmpbmfjaiiaaGreatDoor
