/- Loopers: a tick, and boxes after a tick. -/
import Derived.Test.YtiabcffcbhlbiaaPb
import Derived.Test.YtiabcffcbhlbiaaUv
import Derived.Test.YtiabcffcbhlbiaaM9
set_option linter.unusedVariables false
set_option linter.unusedSimpArgs false
namespace Go.Proofs.Ytiabcffcbhlbiaa
open Go.RowKit
set_option maxRecDepth 20000
set_option maxHeartbeats 8000000

abbrev rgS (B : List (Int × Int)) : List DV := (B.map frC).flatten
abbrev rgV (B : List (Int × Int)) : DV := .slice B.length (rgS B)
theorem frC_len (x : Int × Int) : (frC x).length = 2 := rfl
theorem rgS_len (B : List (Int × Int)) : (rgS B).length = B.length * 2 := flat_len frC 2 frC_len B
theorem rgS_snoc (B : List (Int × Int)) (r : Int × Int) : rgS B ++ [I r.1, I r.2] = rgS (B ++ [r]) := by simp [rgS]
theorem isIn_A (n a b : Int) : AC Try.prog 80 [I n, .agg [I a, I b]] (B (inR n a b)) := by
  refine ac_body Try.func80 rfl (by kernel_rfl) fun w0 ok => ?_; show AWp _ (ctx0 w0 ok _) _ (ARet _ _ _) (entry _)
  (repeat' (first | (with_reducible first | intro hg | refine mv (by constructor) ?_) | ((with_reducible first | refine zR ?_ ?_ | refine zW mixed ?_ ?_); exact kr) | ((with_reducible apply zK); exact rfl; exact tf) | ((with_reducible apply zCD); exact rfl) | ((with_reducible apply zCN); exact rfl) | ((with_reducible apply zC); exact rfl) | ((with_reducible refine zX ?_ ?_); exact rfl) | ((with_reducible refine zE (And.intro ?_ ?_)); exact kr) | (with_reducible refine zE ?_) | ((with_reducible apply zP); (first | exact dp | exact oc rfl (within_A _ _ _))) | ((with_reducible apply zN); exact dn) | ((with_reducible apply zA); exact da) | ((with_reducible apply zS); exact ds) | ((with_reducible apply zY); exact rfl; exact rfl; exact tf) | ((with_reducible apply zG); exact rfl; exact rfl; exact tf) | ((with_reducible apply zU); exact rfl; exact rfl) | ((with_reducible apply zD); exact rfl; exact rfl) | ((with_reducible apply zB); exact rfl; exact rfl)))
  ((with_reducible first | apply q_retR | apply q_retN); exact rl)
  rfl
/-! A box after a tick. -/
/-- A box whose ends are small. -/
def BxS (L : List Lp) (B : List (Int × Int)) : Prop := B.length = L.length ∧ ∀ j, j < L.length → (-2000 ≤ bLo B j ∧ bLo B j ≤ 2000) ∧ (-2000 ≤ bHi B j ∧ bHi B j ≤ 2000)
end Go.Proofs.Ytiabcffcbhlbiaa
