/- Runs are sums of responses; the norm bounds a run. Nothing of the program. -/
import Derived.Test.YtiabcffcbhlbiaaGreatSc
set_option linter.unusedVariables false
set_option linter.unusedSimpArgs false
namespace Go.Proofs.YtiabcffcbhlbiaaGreat
open Go.RowKit
set_option maxRecDepth 20000

/-! Runs are sums of responses. -/
def sumQ (f : Nat → Rat) : Nat → Rat
  | 0 => 0
  | n + 1 => sumQ f n + f n
theorem sumQ_zero : ∀ n, sumQ (fun _ => 0) n = 0
  | 0 => rfl
  | n + 1 => by unfold sumQ; rw [sumQ_zero n, Rat.add_zero]
theorem sumQ_le {f g : Nat → Rat} : ∀ {n : Nat}, (∀ i, i < n → f i ≤ g i) → sumQ f n ≤ sumQ g n
  | 0, _ => Rat.le_refl
  | n + 1, h => by
    have h1 := sumQ_le (n := n) fun i hi => h i (by omega)
    have h2 := h n (by omega)
    unfold sumQ
    grind
theorem sumQ_nonneg {f : Nat → Rat} (n : Nat) (h : ∀ i, i < n → 0 ≤ f i) : 0 ≤ sumQ f n := by
  have := sumQ_le (f := fun _ => 0) (g := f) h
  rwa [sumQ_zero] at this
/-! The norm bounds a run. -/
end Go.Proofs.YtiabcffcbhlbiaaGreat
