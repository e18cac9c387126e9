/- The law FlatChanges: what it answers. -/
import Derived.Test.YtagpmpbmfjaiiaaGreatDoorPi
import Derived.Test.YtagpmpbmfjaiiaaGreatDoorPt
import Derived.Test.YtagpmpbmfjaiiaaGreatDoorM9
import Derived.Test.YtagpmpbmfjaiiaaGreatDoorMo
set_option linter.unusedVariables false
set_option linter.unusedSimpArgs false
namespace Go.Proofs.YtagpmpbmfjaiiaaGreatDoor
open Go.RowKit
set_option maxRecDepth 20000
set_option maxHeartbeats 8000000

theorem low_pos {n d : Int} (h : 0 < d) : 0 < (low n d).2 := by
  show 0 < d / (Int.gcd n d : Int)
  exact Int.ediv_pos_of_pos_of_dvd h (Int.natCast_nonneg _) (Int.gcd_dvd_right ..)
theorem bIsSmall_A (f : Int × Int) (h : 0 < f.2) : AC Tryz.prog 33 [F2 f] (B (smF f)) := by
  have h1 := bwithin_A f.1 (-1000000000) 1000000000
  have h2 := bwithin_A f.2 1 1000000000
  have h3 : inR f.2 1 1000000000 = decide (f.2 ≤ 1000000000) := by
    by_cases hf : f.2 ≤ 1000000000
    · rw [decide_eq_true hf, inR_iff.2 ⟨by omega, hf⟩]
    · rw [decide_eq_false hf]
      cases hq : inR f.2 1 1000000000
      · rfl
      · exact absurd (inR_iff.1 hq).2 hf
  rw [h3] at h2
  unfold smF
  cases hq : inR f.1 (-1000000000) 1000000000
  all_goals
    rw [hq] at h1
    refine ac_body Tryz.func33 rfl (by kernel_rfl) fun w0 ok => ?_; show AWp _ (ctx0 w0 ok _) _ (ARet _ _ _) (entry _)
    (repeat' (first | (with_reducible first | intro hg | refine mv (by constructor) ?_) | ((with_reducible first | refine zR ?_ ?_ | refine zW mixed ?_ ?_); exact kr) | ((with_reducible apply zK); exact rfl; exact tf) | ((with_reducible apply zCD); exact rfl) | ((with_reducible apply zCN); exact rfl) | ((with_reducible apply zC); exact rfl) | ((with_reducible refine zX ?_ ?_); exact rfl) | ((with_reducible refine zE (And.intro ?_ ?_)); exact kr) | (with_reducible refine zE ?_) | ((with_reducible apply zP); (first | exact dp | exact oc rfl (h1) | exact oc rfl (h2))) | ((with_reducible apply zN); exact dn) | ((with_reducible apply zA); exact da) | ((with_reducible apply zS); exact ds) | ((with_reducible apply zY); exact rfl; exact rfl; exact tf) | ((with_reducible apply zG); exact rfl; exact rfl; exact tf) | ((with_reducible apply zU); exact rfl; exact rfl) | ((with_reducible apply zD); exact rfl; exact rfl) | ((with_reducible apply zB); exact rfl; exact rfl)))
    ((with_reducible first | apply q_retR | apply q_retN); exact rl)
    rfl
end Go.Proofs.YtagpmpbmfjaiiaaGreatDoor
