/- Ratios of runs. -/
import Derived.Test.YtiabcffcbhlbiaaSc
import Derived.Test.YtiabcffcbhlbiaaSg
set_option linter.unusedVariables false
set_option linter.unusedSimpArgs false
namespace Go.Proofs.Ytiabcffcbhlbiaa
open Go.RowKit
set_option maxRecDepth 20000
set_option maxHeartbeats 8000000

theorem int_ratS {n : Int} (h : n.natAbs ≤ 1000000000000000000) : RatS 3 (n : Rat) := ⟨wlen_int ⟨by show -9223372036854775808 ≤ n; omega, by show n ≤ 9223372036854775807; omega⟩, by show wlen ((1 : Nat) : Int) ≤ 3; exact wlen_int ⟨by decide, by decide⟩⟩
end Go.Proofs.Ytiabcffcbhlbiaa
