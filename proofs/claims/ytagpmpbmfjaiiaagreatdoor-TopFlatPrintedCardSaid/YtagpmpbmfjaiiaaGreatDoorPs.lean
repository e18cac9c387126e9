/- The example's rules, and the examples. -/
import Derived.Test.YtagpmpbmfjaiiaaGreatDoorPA
import Derived.Test.YtagpmpbmfjaiiaaGreatDoorPq
import Derived.Test.YtagpmpbmfjaiiaaGreatDoorPi
set_option linter.unusedVariables false
set_option linter.unusedSimpArgs false
namespace Go.Proofs.YtagpmpbmfjaiiaaGreatDoor
open Go.RowKit
set_option maxRecDepth 20000
set_option maxHeartbeats 8000000

def eT : List Int := [7, 0, 7]
def eA : List Act3 := [⟨-5, 5, [2, 1, 2]⟩]
theorem eOk : RulOk eT eA := by
  refine ⟨by decide, by decide, by decide, by decide, by decide, ?_⟩
  intro a ha
  have : a = ⟨-5, 5, [2, 1, 2]⟩ := by simpa [eA] using ha
  subst this
  decide
theorem rules_A : AC Tryz.prog 49 [] (rulV eT eA) := by
  refine ac_body Tryz.func49 rfl (by kernel_rfl) fun w0 ok => ?_; show AWp _ (ctx0 w0 ok _) _ (ARet _ _ _) (entry _)
  (repeat' (first | (with_reducible first | intro hg | refine mv (by constructor) ?_) | ((with_reducible first | refine zR ?_ ?_ | refine zW mixed ?_ ?_); exact kr) | ((with_reducible apply zK); exact rfl; exact tf) | ((with_reducible apply zCD); exact rfl) | ((with_reducible apply zCN); exact rfl) | ((with_reducible apply zC); exact rfl) | ((with_reducible refine zX ?_ ?_); exact rfl) | ((with_reducible refine zE (And.intro ?_ ?_)); exact kr) | (with_reducible refine zE ?_) | ((with_reducible apply zP); (first | exact o_buildSlD rfl (by decide) rfl | exact dp)) | ((with_reducible apply zN); exact dn) | ((with_reducible apply zA); exact da) | ((with_reducible apply zS); exact ds) | ((with_reducible apply zY); exact rfl; exact rfl; exact tf) | ((with_reducible apply zG); exact rfl; exact rfl; exact tf) | ((with_reducible apply zU); exact rfl; exact rfl) | ((with_reducible apply zD); exact rfl; exact rfl) | ((with_reducible apply zB); exact rfl; exact rfl)))
  ((with_reducible first | apply q_retR | apply q_retN); exact rl)
  rfl
theorem ex_crown : AC Tryz.prog 35 [isl [100, 104, 102]] (.tuple [F2 (3, 1), I 0]) := crownOf_ok [100, 104, 102] (by decide +kernel)
theorem ex_best : AC Tryz.prog 40 [rulV eT eA] (.tuple [isl [2], I 3, I 0]) := by
  have h := best_A eT eA (allS eA) eOk (allS_ok eOk) (by decide +kernel)
  have e : bstK (maxP eT eA) (allS eA) (allS eA).length = some ([2], 3) := by decide +kernel
  rw [e] at h
  exact h
theorem ex_bound : AC Tryz.prog 43 [rulV eT eA, isl [1, -2, 0]] (.tuple [F2 (7, 3), I 0]) := by
  have h := bound_A eT eA [1, -2, 0] eOk (by decide +kernel) ⟨rfl, by decide⟩ (by decide +kernel) (by decide +kernel)
  have e : bndW eT eA [1, -2, 0] = ((7, 3), 0) := by decide +kernel
  rw [e] at h
  exact h
theorem ex_contra : AC Tryz.prog 48 [rulV eT eA, I 2] (.tuple [isl [0, 1], I 0]) := by
  have h := contra_A eT eA (allS eA) 2 eOk (allS_ok eOk) (by decide +kernel) (by decide +kernel)
  have e : contP eT eA 2 (allS eA) = some [0, 1] := by decide +kernel
  rw [e] at h
  exact h
theorem ex_heat : AC Tryz.prog 50 [isl [100, 0], .agg [I 0, I 100, I 200], I 1] (.tuple [isl [70, 20], I 0]) := by
  have h := heated_A [100, 0] 0 100 200 1 ⟨by decide, by decide, by decide, by decide, by decide, by decide⟩ (by decide) (by decide)
  have e : heatN 0 100 200 [100, 0] 1 = [70, 20] := by decide +kernel
  rw [e] at h
  exact h
theorem awake_A : AC Tryz.prog 6 [] (B true) := by
  have h1 := ints_A [2] [2] (by decide) (by decide)
  have h2 := ints_A [0, 1] [0, 1] (by decide) (by decide)
  have h3 := ints_A [70, 20] [70, 20] (by decide) (by decide)
  have h4 := bwhole_A 3
  refine ac_body Tryz.func6 rfl (by kernel_rfl) fun w0 ok => ?_; show AWp _ (ctx0 w0 ok _) _ (ARet _ _ _) (entry _)
  (repeat' (first | (with_reducible first | intro hg | refine mv (by constructor) ?_) | ((with_reducible first | refine zR ?_ ?_ | refine zW mixed ?_ ?_); exact kr) | ((with_reducible apply zK); exact rfl; exact tf) | ((with_reducible apply zCD); exact rfl) | ((with_reducible apply zCN); exact rfl) | ((with_reducible apply zC); exact rfl) | ((with_reducible refine zX ?_ ?_); exact rfl) | ((with_reducible refine zE (And.intro ?_ ?_)); exact kr) | (with_reducible refine zE ?_) | ((with_reducible apply zP); (first | exact o_buildSlD rfl (by decide) rfl | exact dp | exact oc rfl (rules_A) | exact oc rfl (ex_crown) | exact oc rfl (ex_best) | exact oc rfl (ex_bound) | exact oc rfl (ex_contra) | exact oc rfl (ex_heat) | exact oc rfl (h1) | exact oc rfl (h2) | exact oc rfl (h3) | exact oc rfl (h4))) | ((with_reducible apply zN); exact dn) | ((with_reducible apply zA); exact da) | ((with_reducible apply zS); exact ds) | ((with_reducible apply zY); exact rfl; exact rfl; exact tf) | ((with_reducible apply zG); exact rfl; exact rfl; exact tf) | ((with_reducible apply zU); exact rfl; exact rfl) | ((with_reducible apply zD); exact rfl; exact rfl) | ((with_reducible apply zB); exact rfl; exact rfl)))
  all_goals (((with_reducible first | apply q_retR | apply q_retN); exact rl); rfl)

end Go.Proofs.YtagpmpbmfjaiiaaGreatDoor
