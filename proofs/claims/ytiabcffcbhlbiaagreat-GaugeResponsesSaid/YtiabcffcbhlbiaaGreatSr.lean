/- The gain bound bounds responses and runs. Nothing of the program's text. -/
import Derived.Test.YtiabcffcbhlbiaaGreatSx
import Derived.Test.YtiabcffcbhlbiaaGreatSo
set_option linter.unusedVariables false
set_option linter.unusedSimpArgs false
namespace Go.Proofs.YtiabcffcbhlbiaaGreat
open Go.RowKit
set_option maxRecDepth 20000

theorem absR_S {r : Rat} {k : Nat} (h : RatS k r) : RatS k (absR r) := by
  unfold absR
  cases decide (r < 0)
  · exact h
  · refine ⟨?_, ?_⟩
    · show wlen (-r).num ≤ k
      rw [Rat.neg_num]
      have := h.1
      unfold wlen at this ⊢
      rw [Int.natAbs_neg]; exact this
    · exact h.2
end Go.Proofs.YtiabcffcbhlbiaaGreat
