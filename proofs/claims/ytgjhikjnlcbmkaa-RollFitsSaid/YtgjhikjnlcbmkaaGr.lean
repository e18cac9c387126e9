/- A matrix of sums of products has a determinant that is not below 0 (chapter 6). Nothing of the program. -/
import Derived.Test.YtgjhikjnlcbmkaaGa
set_option linter.unusedVariables false
set_option linter.unusedSimpArgs false
namespace Go.Proofs.Ytgjhikjnlcbmkaa
open Go.RowKit
set_option maxRecDepth 20000

/-! A matrix of sums of products has a determinant that is not below 0. -/
abbrev linW (W : Nat → Nat → Int) (a b c d : Int) (k : Nat) : Int := a * W k 0 + b * W k 1 + c * W k 2 + d * W k 3
theorem lin_row (W : Nat → Nat → Int) (a b c d : Int) (i : Nat) : ∀ K, sumTo (fun k => W k i * linW W a b c d k) K = a * eqM W K i 0 + b * eqM W K i 1 + c * eqM W K i 2 + d * eqM W K i 3
  | 0 => by simp [sumTo, eqM]
  | K + 1 => by
    have ih := lin_row W a b c d i K
    unfold eqM at ih ⊢
    unfold sumTo
    rw [ih]
    grind
theorem lin_sq (W : Nat → Nat → Int) (a b c d : Int) : ∀ K, sumTo (fun k => linW W a b c d k * linW W a b c d k) K = a * sumTo (fun k => W k 0 * linW W a b c d k) K + b * sumTo (fun k => W k 1 * linW W a b c d k) K + c * sumTo (fun k => W k 2 * linW W a b c d k) K + d * sumTo (fun k => W k 3 * linW W a b c d k) K
  | 0 => by simp [sumTo]
  | K + 1 => by
    have ih := lin_sq W a b c d K
    unfold sumTo
    rw [ih]
    grind
theorem sq_nonneg (f : Nat → Int) : ∀ K, 0 ≤ sumTo (fun k => f k * f k) K
  | 0 => Int.le_refl _
  | K + 1 => by
    have h1 := sq_nonneg f K
    have h2 : 0 ≤ f K * f K := by
      rcases Int.le_total 0 (f K) with h | h
      · exact Int.mul_nonneg h h
      · exact Int.mul_nonneg_of_nonpos_of_nonpos h h
    show 0 ≤ sumTo _ K + f K * f K
    omega
theorem sq_zero {f : Nat → Int} {K : Nat} (h : sumTo (fun k => f k * f k) K = 0) : ∀ k, k < K → f k = 0 := by
  induction K with
  | zero => intro k hk; omega
  | succ K ih =>
    have h : sumTo (fun k => f k * f k) K + f K * f K = 0 := h
    have h1 := sq_nonneg f K
    have h2 : 0 ≤ f K * f K := by
      rcases Int.le_total 0 (f K) with h | h
      · exact Int.mul_nonneg h h
      · exact Int.mul_nonneg_of_nonpos_of_nonpos h h
    intro k hk
    by_cases e : k = K
    · rw [e]
      have : f K * f K = 0 := by omega
      rcases Int.mul_eq_zero.1 this with h | h <;> exact h
    · exact ih (by omega) k (by omega)
theorem sumTo_zero {f : Nat → Int} : ∀ {K : Nat}, (∀ k, k < K → f k = 0) → sumTo f K = 0
  | 0, _ => rfl
  | K + 1, h => by
    show sumTo f K + f K = 0
    rw [sumTo_zero fun k hk => h k (by omega), h K (by omega)]; rfl
theorem qf_pos (W : Nat → Nat → Int) (K : Nat) (a b c d : Int) {i : Nat} (h : a * eqM W K i 0 + b * eqM W K i 1 + c * eqM W K i 2 + d * eqM W K i 3 ≠ 0) : 0 < a * (a * eqM W K 0 0 + b * eqM W K 0 1 + c * eqM W K 0 2 + d * eqM W K 0 3) + b * (a * eqM W K 1 0 + b * eqM W K 1 1 + c * eqM W K 1 2 + d * eqM W K 1 3) + c * (a * eqM W K 2 0 + b * eqM W K 2 1 + c * eqM W K 2 2 + d * eqM W K 2 3) + d * (a * eqM W K 3 0 + b * eqM W K 3 1 + c * eqM W K 3 2 + d * eqM W K 3 3) := by
  have e := lin_sq W a b c d K
  rw [lin_row, lin_row, lin_row, lin_row] at e
  rw [← e]
  have h1 := sq_nonneg (linW W a b c d) K
  refine Int.lt_iff_le_and_ne.2 ⟨h1, fun hz => h ?_⟩
  rw [← lin_row]
  exact sumTo_zero fun k hk => by rw [sq_zero hz.symm k hk, Int.mul_zero]
theorem gram_pos (W : Nat → Nat → Int) (K : Nat) (m : Nat → Nat → Int) (hm : ∀ i j, m i j = eqM W K i j)
    (h : m 0 0 * (m 1 1 * (m 2 2 * m 3 3 - m 2 3 * m 3 2) - m 1 2 * (m 2 1 * m 3 3 - m 2 3 * m 3 1) + m 1 3 * (m 2 1 * m 3 2 - m 2 2 * m 3 1)) - m 0 1 * (m 1 0 * (m 2 2 * m 3 3 - m 2 3 * m 3 2) - m 1 2 * (m 2 0 * m 3 3 - m 2 3 * m 3 0) + m 1 3 * (m 2 0 * m 3 2 - m 2 2 * m 3 0)) + m 0 2 * (m 1 0 * (m 2 1 * m 3 3 - m 2 3 * m 3 1) - m 1 1 * (m 2 0 * m 3 3 - m 2 3 * m 3 0) + m 1 3 * (m 2 0 * m 3 1 - m 2 1 * m 3 0)) - m 0 3 * (m 1 0 * (m 2 1 * m 3 2 - m 2 2 * m 3 1) - m 1 1 * (m 2 0 * m 3 2 - m 2 2 * m 3 0) + m 1 2 * (m 2 0 * m 3 1 - m 2 1 * m 3 0)) ≠ 0) :
    0 < m 0 0 * (m 1 1 * (m 2 2 * m 3 3 - m 2 3 * m 3 2) - m 1 2 * (m 2 1 * m 3 3 - m 2 3 * m 3 1) + m 1 3 * (m 2 1 * m 3 2 - m 2 2 * m 3 1)) - m 0 1 * (m 1 0 * (m 2 2 * m 3 3 - m 2 3 * m 3 2) - m 1 2 * (m 2 0 * m 3 3 - m 2 3 * m 3 0) + m 1 3 * (m 2 0 * m 3 2 - m 2 2 * m 3 0)) + m 0 2 * (m 1 0 * (m 2 1 * m 3 3 - m 2 3 * m 3 1) - m 1 1 * (m 2 0 * m 3 3 - m 2 3 * m 3 0) + m 1 3 * (m 2 0 * m 3 1 - m 2 1 * m 3 0)) - m 0 3 * (m 1 0 * (m 2 1 * m 3 2 - m 2 2 * m 3 1) - m 1 1 * (m 2 0 * m 3 2 - m 2 2 * m 3 0) + m 1 2 * (m 2 0 * m 3 1 - m 2 1 * m 3 0)) := by
  have hq : ∀ (a b c d : Int) (i : Nat), a * m i 0 + b * m i 1 + c * m i 2 + d * m i 3 ≠ 0 → 0 < a * (a * m 0 0 + b * m 0 1 + c * m 0 2 + d * m 0 3) + b * (a * m 1 0 + b * m 1 1 + c * m 1 2 + d * m 1 3) + c * (a * m 2 0 + b * m 2 1 + c * m 2 2 + d * m 2 3) + d * (a * m 3 0 + b * m 3 1 + c * m 3 2 + d * m 3 3) := fun a b c d i h => by
    simp only [hm] at h ⊢
    exact qf_pos W K a b c d h
  have h00 : 0 ≤ m 0 0 := by rw [hm]; exact sq_nonneg (fun k => W k 0) K
  clear hm
  -- cofactors
  have g2 : ∀ x y : Int, 0 < x * y → 0 < x → 0 < y := fun x y h hx => by
    refine Int.not_le.1 fun hy => ?_
    have := Int.mul_nonpos_of_nonneg_of_nonpos (Int.le_of_lt hx) hy
    omega
  have nz : ∀ x y : Int, 0 < x * y → x ≠ 0 := fun x y h e => by rw [e, Int.zero_mul] at h; omega
  have k4 := hq (-(m 0 1 * (m 1 2 * m 2 3 - m 1 3 * m 2 2) - m 0 2 * (m 1 1 * m 2 3 - m 1 3 * m 2 1) + m 0 3 * (m 1 1 * m 2 2 - m 1 2 * m 2 1))) (m 0 0 * (m 1 2 * m 2 3 - m 1 3 * m 2 2) - m 0 2 * (m 1 0 * m 2 3 - m 1 3 * m 2 0) + m 0 3 * (m 1 0 * m 2 2 - m 1 2 * m 2 0)) (-(m 0 0 * (m 1 1 * m 2 3 - m 1 3 * m 2 1) - m 0 1 * (m 1 0 * m 2 3 - m 1 3 * m 2 0) + m 0 3 * (m 1 0 * m 2 1 - m 1 1 * m 2 0))) (m 0 0 * (m 1 1 * m 2 2 - m 1 2 * m 2 1) - m 0 1 * (m 1 0 * m 2 2 - m 1 2 * m 2 0) + m 0 2 * (m 1 0 * m 2 1 - m 1 1 * m 2 0)) 3 (by
    intro e
    refine h ?_
    rw [← e]
    grind)
  have e4 : 0 < (m 0 0 * (m 1 1 * m 2 2 - m 1 2 * m 2 1) - m 0 1 * (m 1 0 * m 2 2 - m 1 2 * m 2 0) + m 0 2 * (m 1 0 * m 2 1 - m 1 1 * m 2 0)) * (m 0 0 * (m 1 1 * (m 2 2 * m 3 3 - m 2 3 * m 3 2) - m 1 2 * (m 2 1 * m 3 3 - m 2 3 * m 3 1) + m 1 3 * (m 2 1 * m 3 2 - m 2 2 * m 3 1)) - m 0 1 * (m 1 0 * (m 2 2 * m 3 3 - m 2 3 * m 3 2) - m 1 2 * (m 2 0 * m 3 3 - m 2 3 * m 3 0) + m 1 3 * (m 2 0 * m 3 2 - m 2 2 * m 3 0)) + m 0 2 * (m 1 0 * (m 2 1 * m 3 3 - m 2 3 * m 3 1) - m 1 1 * (m 2 0 * m 3 3 - m 2 3 * m 3 0) + m 1 3 * (m 2 0 * m 3 1 - m 2 1 * m 3 0)) - m 0 3 * (m 1 0 * (m 2 1 * m 3 2 - m 2 2 * m 3 1) - m 1 1 * (m 2 0 * m 3 2 - m 2 2 * m 3 0) + m 1 2 * (m 2 0 * m 3 1 - m 2 1 * m 3 0))) := by
    have e : ∀ x y : Int, 0 < x → x = y → 0 < y := fun x y h e => e ▸ h
    refine e _ _ k4 ?_
    grind
  refine g2 _ _ e4 ?_
  have n3 := nz _ _ e4
  clear k4 e4 h
  have k3 := hq (m 0 1 * m 1 2 - m 0 2 * m 1 1) (-(m 0 0 * m 1 2 - m 0 2 * m 1 0)) (m 0 0 * m 1 1 - m 0 1 * m 1 0) 0 2 (by
    intro e
    refine n3 ?_
    rw [← e]
    grind)
  have e3 : 0 < (m 0 0 * m 1 1 - m 0 1 * m 1 0) * (m 0 0 * (m 1 1 * m 2 2 - m 1 2 * m 2 1) - m 0 1 * (m 1 0 * m 2 2 - m 1 2 * m 2 0) + m 0 2 * (m 1 0 * m 2 1 - m 1 1 * m 2 0)) := by
    have e : ∀ x y : Int, 0 < x → x = y → 0 < y := fun x y h e => e ▸ h
    refine e _ _ k3 ?_
    grind
  refine g2 _ _ e3 ?_
  have n2 := nz _ _ e3
  clear k3 e3 n3
  have k2 := hq (-(m 0 1)) (m 0 0) 0 0 1 (by
    intro e
    refine n2 ?_
    rw [← e]
    grind)
  have e2 : 0 < m 0 0 * (m 0 0 * m 1 1 - m 0 1 * m 1 0) := by
    have e : ∀ x y : Int, 0 < x → x = y → 0 < y := fun x y h e => e ▸ h
    refine e _ _ k2 ?_
    grind
  refine g2 _ _ e2 ?_
  have n1 := nz _ _ e2
  omega

end Go.Proofs.Ytgjhikjnlcbmkaa
