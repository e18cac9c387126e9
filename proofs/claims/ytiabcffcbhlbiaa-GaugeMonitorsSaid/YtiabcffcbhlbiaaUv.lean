/- Matrices of ranges as lists. Nothing of the program. -/
import Derived.Test.YtiabcffcbhlbiaaUt
set_option linter.unusedVariables false
set_option linter.unusedSimpArgs false
namespace Go.Proofs.Ytiabcffcbhlbiaa
open Go.RowKit
set_option maxRecDepth 20000

abbrev Ml := List (List Rg)
abbrev ent (A : Ml) (i j : Nat) : Rg := (A.getD i []).getD j rg0
def Sq (n : Nat) (A : Ml) : Prop := A.length = n ∧ ∀ i, i < n → (A.getD i []).length = n
/-- A matrix of so many rows. -/
def mkL (n : Nat) (M : Mx) : Ml := (List.range n).map fun i => lsR (M i) n
theorem mkL_row {n : Nat} (M : Mx) {i : Nat} (h : i < n) : (mkL n M).getD i [] = lsR (M i) n := by
  unfold mkL
  rw [List.getD_eq_getElem?_getD, List.getElem?_map, List.getElem?_range h]; rfl
theorem mkL_sq (n : Nat) (M : Mx) : Sq n (mkL n M) := ⟨by simp [mkL], fun i h => by rw [mkL_row M h, lsR_length]⟩
theorem mkL_ent {n : Nat} (M : Mx) {i j : Nat} (hi : i < n) (hj : j < n) : ent (mkL n M) i j = M i j := by
  show ((mkL n M).getD i []).getD j rg0 = _
  rw [mkL_row M hi, lsR_get _ hj]
theorem lsR_congr {f g : Nat → Int × Int} {n : Nat} (h : ∀ i, i < n → f i = g i) : lsR f n = lsR g n := List.map_congr_left fun i hi => h i (List.mem_range.1 hi)
theorem sumR_congr {f g : Nat → Rg} : ∀ {n : Nat}, (∀ i, i < n → f i = g i) → sumR f n = sumR g n
  | 0, _ => rfl
  | n + 1, h => by
    unfold sumR
    rw [sumR_congr (n := n) fun i hi => h i (by omega), h n (by omega)]
theorem mkL_congr {n : Nat} {M O : Mx} (h : ∀ i j, i < n → j < n → M i j = O i j) : mkL n M = mkL n O :=
  List.map_congr_left fun i hi => lsR_congr fun j hj => h i j (List.mem_range.1 hi) hj
theorem mulM_congr {n : Nat} {M O M' O' : Mx} (h1 : ∀ i j, i < n → j < n → M i j = M' i j) (h2 : ∀ i j, i < n → j < n → O i j = O' i j) : mkL n (mulM n M O) = mkL n (mulM n M' O') :=
  mkL_congr fun i k hi hk => sumR_congr fun j hj => by rw [h1 i j hi hj, h2 j k hj hk]
/-- The product of two lists of rows. -/
theorem mul_mkL {n : Nat} (M O : Mx) : mkL n (mulM n (ent (mkL n M)) (ent (mkL n O))) = mkL n (mulM n M O) :=
  mulM_congr (fun _ _ hi hj => mkL_ent M hi hj) fun _ _ hi hj => mkL_ent O hi hj

end Go.Proofs.Ytiabcffcbhlbiaa
