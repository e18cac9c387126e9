/- Walks: ErrorOf, and the reference's Error and part. -/
import Derived.Test.YtgjhikjnlcbmkaaGa
import Derived.Test.YtgjhikjnlcbmkaaM6
set_option linter.unusedVariables false
set_option linter.unusedSimpArgs false
namespace Go.Proofs.Ytgjhikjnlcbmkaa
open Go.RowKit
set_option maxRecDepth 20000
set_option maxHeartbeats 8000000

theorem nth_rng {xs : List Int} {B : Int} (hB : Bnd B xs) (h0 : 0 ≤ B) (k : Nat) : -B ≤ nth xs k ∧ nth xs k ≤ B := by
  by_cases hk : k < xs.length
  · exact nth_bnd hB hk
  · unfold nth; rw [List.getD_eq_getElem?_getD, List.getElem?_eq_none (by omega)]; simp; omega
theorem part_A (nm0 : ByteArray) (p0 o0 : Int) (nm1 : ByteArray) (p1 o1 : Int) (j : Nat) (k : Int) (hd0 : Drum p0 o0) (hd1 : Drum p1 o1) (hj : j < 4) (h0 : 0 ≤ k) (h1 : k ≤ 1000000) : AC Try.prog 36 [drums2 nm0 p0 o0 nm1 p1 o1, I j, I k] (I (W4 p0 o0 p1 o1 k j)) := by
  have hc : j = 0 ∨ j = 1 ∨ j = 2 ∨ j = 3 := by omega
  have s0 : Sm 0 := by unfold Sm; decide
  have s1 : Sm 1 := by unfold Sm; decide
  have b0 := bwave_A nm0 p0 o0 1 0 k hd0 h0 h1 s1 s0
  have b1 := bwave_A nm0 p0 o0 0 1 k hd0 h0 h1 s0 s1
  have b2 := bwave_A nm1 p1 o1 1 0 k hd1 h0 h1 s1 s0
  have b3 := bwave_A nm1 p1 o1 0 1 k hd1 h0 h1 s0 s1
  rcases hc with rfl | rfl | rfl | rfl
  all_goals
    refine ac_body Try.func36 rfl (by kernel_rfl) fun w0 ok => ?_; show AWp _ (ctx0 w0 ok _) _ (ARet _ _ _) (entry _)
    (repeat' (first | (with_reducible first | intro hg | refine mv (by constructor) ?_) | ((with_reducible first | refine zR ?_ ?_ | refine zW mixed ?_ ?_); exact kr) | ((with_reducible apply zK); exact rfl; exact tf) | ((with_reducible apply zCD); exact rfl) | ((with_reducible apply zCN); exact rfl) | ((with_reducible apply zC); exact rfl) | ((with_reducible refine zX ?_ ?_); exact rfl) | ((with_reducible refine zE (And.intro ?_ ?_)); exact kr) | (with_reducible refine zE ?_) | ((with_reducible apply zP); (first | exact dp | exact oc rfl (b0) | exact oc rfl (b1) | exact oc rfl (b2) | exact oc rfl (b3))) | ((with_reducible apply zN); exact dn) | ((with_reducible apply zA); exact da) | ((with_reducible apply zS); exact ds) | ((with_reducible apply zY); exact rfl; exact rfl; exact tf) | ((with_reducible apply zG); exact rfl; exact rfl; exact tf) | ((with_reducible apply zU); exact rfl; exact rfl) | ((with_reducible apply zD); exact rfl; exact rfl) | ((with_reducible apply zB); exact rfl; exact rfl)))
    ((with_reducible first | apply q_retR | apply q_retN); exact rl)
    rfl
end Go.Proofs.Ytgjhikjnlcbmkaa
