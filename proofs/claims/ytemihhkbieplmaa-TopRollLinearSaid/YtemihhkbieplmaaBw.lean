/- The laws RollCancels, RollAmplitudes, RollRecords: what they answer. -/
import Derived.Test.YtemihhkbieplmaaW6
set_option linter.unusedVariables false
set_option linter.unusedSimpArgs false
namespace Go.Proofs.Ytemihhkbieplmaa
open Go.RowKit
set_option maxRecDepth 20000
set_option maxHeartbeats 4000000

theorem ints_same (xs : List Int) (hm : xs.length ≤ 140737488355328) : AC Try.prog 24 [isl xs, isl xs] (B true) := by
  have h := ints_A xs xs hm hm
  rwa [decide_eq_true rfl] at h
theorem few_big (xs : List Int) (hm : xs.length ≤ 140737488355328) (h : ¬ (xs.length : Int) ≤ 242) : AC Try.prog 26 [isl xs] (B false) := by
  have h1 := few_A xs hm
  rwa [decide_eq_false h] at h1
theorem few_ok (xs : List Int) (h : (xs.length : Int) ≤ 242) : AC Try.prog 26 [isl xs] (B true) := by
  have h1 := few_A xs (by omega)
  rwa [decide_eq_true h] at h1

end Go.Proofs.Ytemihhkbieplmaa
