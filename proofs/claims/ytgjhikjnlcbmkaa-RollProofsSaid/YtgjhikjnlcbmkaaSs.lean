/- The determinant of a matrix of sums of products is not above the product of its diagonal (chapter 6). Nothing of the program. -/
import Derived.Test.YtgjhikjnlcbmkaaGr
set_option linter.unusedVariables false
set_option linter.unusedSimpArgs false
namespace Go.Proofs.Ytgjhikjnlcbmkaa
open Go.RowKit
set_option maxRecDepth 20000

theorem qf_nn (W : Nat → Nat → Int) (K : Nat) (a b c d : Int) : 0 ≤ a * (a * eqM W K 0 0 + b * eqM W K 0 1 + c * eqM W K 0 2 + d * eqM W K 0 3) + b * (a * eqM W K 1 0 + b * eqM W K 1 1 + c * eqM W K 1 2 + d * eqM W K 1 3) + c * (a * eqM W K 2 0 + b * eqM W K 2 1 + c * eqM W K 2 2 + d * eqM W K 2 3) + d * (a * eqM W K 3 0 + b * eqM W K 3 1 + c * eqM W K 3 2 + d * eqM W K 3 3) := by
  have e := lin_sq W a b c d K
  rw [lin_row, lin_row, lin_row, lin_row] at e
  rw [← e]
  exact sq_nonneg (linW W a b c d) K
theorem eqM_sym (W : Nat → Nat → Int) (K i j : Nat) : eqM W K i j = eqM W K j i := by
  unfold eqM
  congr 1
  funext k
  exact Int.mul_comm _ _
def d2 (m : Nat → Nat → Int) : Int := m 0 0 * m 1 1 - m 0 1 * m 1 0
def d3 (m : Nat → Nat → Int) : Int := m 0 0 * (m 1 1 * m 2 2 - m 1 2 * m 2 1) - m 0 1 * (m 1 0 * m 2 2 - m 1 2 * m 2 0) + m 0 2 * (m 1 0 * m 2 1 - m 1 1 * m 2 0)
def d4 (m : Nat → Nat → Int) : Int := m 0 0 * (m 1 1 * (m 2 2 * m 3 3 - m 2 3 * m 3 2) - m 1 2 * (m 2 1 * m 3 3 - m 2 3 * m 3 1) + m 1 3 * (m 2 1 * m 3 2 - m 2 2 * m 3 1)) - m 0 1 * (m 1 0 * (m 2 2 * m 3 3 - m 2 3 * m 3 2) - m 1 2 * (m 2 0 * m 3 3 - m 2 3 * m 3 0) + m 1 3 * (m 2 0 * m 3 2 - m 2 2 * m 3 0)) + m 0 2 * (m 1 0 * (m 2 1 * m 3 3 - m 2 3 * m 3 1) - m 1 1 * (m 2 0 * m 3 3 - m 2 3 * m 3 0) + m 1 3 * (m 2 0 * m 3 1 - m 2 1 * m 3 0)) - m 0 3 * (m 1 0 * (m 2 1 * m 3 2 - m 2 2 * m 3 1) - m 1 1 * (m 2 0 * m 3 2 - m 2 2 * m 3 0) + m 1 2 * (m 2 0 * m 3 1 - m 2 1 * m 3 0))
theorem pos_of {x y : Int} (h : 0 < x * y) (hx : 0 < x) : 0 < y := by
  refine Int.not_le.1 fun hy => ?_
  have := Int.mul_nonpos_of_nonneg_of_nonpos (Int.le_of_lt hx) hy
  omega
theorem nn_of {x y : Int} (h : 0 ≤ x * y) (hx : 0 < x) : 0 ≤ y := by
  refine Int.not_lt.1 fun hy => ?_
  have := Int.mul_neg_of_pos_of_neg hx hy
  omega
theorem gram_minors (W : Nat → Nat → Int) (K : Nat) (m : Nat → Nat → Int) (hm : ∀ i j, m i j = eqM W K i j) (h : d4 m ≠ 0) : 0 < m 0 0 ∧ 0 < d2 m ∧ 0 < d3 m ∧ 0 < d4 m := by
  have hq : ∀ (a b c d : Int) (i : Nat), a * m i 0 + b * m i 1 + c * m i 2 + d * m i 3 ≠ 0 → 0 < a * (a * m 0 0 + b * m 0 1 + c * m 0 2 + d * m 0 3) + b * (a * m 1 0 + b * m 1 1 + c * m 1 2 + d * m 1 3) + c * (a * m 2 0 + b * m 2 1 + c * m 2 2 + d * m 2 3) + d * (a * m 3 0 + b * m 3 1 + c * m 3 2 + d * m 3 3) := fun a b c d i h => by
    simp only [hm] at h ⊢
    exact qf_pos W K a b c d h
  have h00 : 0 ≤ m 0 0 := by rw [hm]; exact sq_nonneg (fun k => W k 0) K
  clear hm
  have nz : ∀ x y : Int, 0 < x * y → x ≠ 0 := fun x y h e => by rw [e, Int.zero_mul] at h; omega
  have k4 := hq (-(m 0 1 * (m 1 2 * m 2 3 - m 1 3 * m 2 2) - m 0 2 * (m 1 1 * m 2 3 - m 1 3 * m 2 1) + m 0 3 * (m 1 1 * m 2 2 - m 1 2 * m 2 1))) (m 0 0 * (m 1 2 * m 2 3 - m 1 3 * m 2 2) - m 0 2 * (m 1 0 * m 2 3 - m 1 3 * m 2 0) + m 0 3 * (m 1 0 * m 2 2 - m 1 2 * m 2 0)) (-(m 0 0 * (m 1 1 * m 2 3 - m 1 3 * m 2 1) - m 0 1 * (m 1 0 * m 2 3 - m 1 3 * m 2 0) + m 0 3 * (m 1 0 * m 2 1 - m 1 1 * m 2 0))) (d3 m) 3 (by
    intro e
    refine h ?_
    rw [← e]
    unfold d3 d4
    grind)
  have e4 : 0 < d3 m * d4 m := by
    have e : ∀ x y : Int, 0 < x → x = y → 0 < y := fun x y h e => e ▸ h
    refine e _ _ k4 ?_
    unfold d3 d4
    grind
  have n3 := nz _ _ e4
  clear k4 h
  have k3 := hq (m 0 1 * m 1 2 - m 0 2 * m 1 1) (-(m 0 0 * m 1 2 - m 0 2 * m 1 0)) (d2 m) 0 2 (by
    intro e
    refine n3 ?_
    rw [← e]
    unfold d2 d3
    grind)
  have e3 : 0 < d2 m * d3 m := by
    have e : ∀ x y : Int, 0 < x → x = y → 0 < y := fun x y h e => e ▸ h
    refine e _ _ k3 ?_
    unfold d2 d3
    grind
  clear k3 n3
  have n2 := nz _ _ e3
  have k2 := hq (-(m 0 1)) (m 0 0) 0 0 1 (by
    intro e
    refine n2 ?_
    rw [← e]
    unfold d2
    grind)
  have e2 : 0 < m 0 0 * d2 m := by
    have e : ∀ x y : Int, 0 < x → x = y → 0 < y := fun x y h e => e ▸ h
    refine e _ _ k2 ?_
    unfold d2
    grind
  clear k2
  have n1 := nz _ _ e2
  have p1 : 0 < m 0 0 := by omega
  have p2 := pos_of e2 p1
  have p3 := pos_of e3 p2
  exact ⟨p1, p2, p3, pos_of e4 p3⟩
theorem gram_le (W : Nat → Nat → Int) (K : Nat) (m : Nat → Nat → Int) (hm : ∀ i j, m i j = eqM W K i j) (h : d4 m ≠ 0) {B : Int} (hB : ∀ i, m i i ≤ B) : d4 m ≤ B * B * B * B := by
  obtain ⟨p1, p2, p3, p4⟩ := gram_minors W K m hm h
  have hn : ∀ i, 0 ≤ m i i := fun i => by rw [hm]; exact sq_nonneg (fun k => W k i) K
  have hs : ∀ i j, m i j = m j i := fun i j => by rw [hm, hm, eqM_sym]
  have hq : ∀ a b c : Int, 0 ≤ a * (a * m 0 0 + b * m 0 1 + c * m 0 2 + 0 * m 0 3) + b * (a * m 1 0 + b * m 1 1 + c * m 1 2 + 0 * m 1 3) + c * (a * m 2 0 + b * m 2 1 + c * m 2 2 + 0 * m 2 3) + 0 * (a * m 3 0 + b * m 3 1 + c * m 3 2 + 0 * m 3 3) := fun a b c => by
    simp only [hm]
    exact qf_nn W K a b c 0
  clear hm h
  -- the last row
  have l3 : d4 m ≤ d3 m * m 3 3 := by
    obtain ⟨x0, hx0⟩ : ∃ x, x = m 0 3 * (m 1 1 * m 2 2 - m 1 2 * m 2 1) - m 0 1 * (m 1 3 * m 2 2 - m 1 2 * m 2 3) + m 0 2 * (m 1 3 * m 2 1 - m 1 1 * m 2 3) := ⟨_, rfl⟩
    obtain ⟨x1, hx1⟩ : ∃ x, x = m 0 0 * (m 1 3 * m 2 2 - m 1 2 * m 2 3) - m 0 3 * (m 1 0 * m 2 2 - m 1 2 * m 2 0) + m 0 2 * (m 1 0 * m 2 3 - m 1 3 * m 2 0) := ⟨_, rfl⟩
    obtain ⟨x2, hx2⟩ : ∃ x, x = m 0 0 * (m 1 1 * m 2 3 - m 1 3 * m 2 1) - m 0 1 * (m 1 0 * m 2 3 - m 1 3 * m 2 0) + m 0 3 * (m 1 0 * m 2 1 - m 1 1 * m 2 0) := ⟨_, rfl⟩
    have r0 : x0 * m 0 0 + x1 * m 0 1 + x2 * m 0 2 = d3 m * m 0 3 := by rw [hx0, hx1, hx2]; unfold d3; grind
    have r1 : x0 * m 1 0 + x1 * m 1 1 + x2 * m 1 2 = d3 m * m 1 3 := by rw [hx0, hx1, hx2]; unfold d3; grind
    have r2 : x0 * m 2 0 + x1 * m 2 1 + x2 * m 2 2 = d3 m * m 2 3 := by rw [hx0, hx1, hx2]; unfold d3; grind
    have r3 : d3 m * m 3 3 - (x0 * m 3 0 + x1 * m 3 1 + x2 * m 3 2) = d4 m := by rw [hx0, hx1, hx2]; unfold d3 d4; grind
    have q := hq x0 x1 x2
    have q2 : 0 ≤ d3 m * (x0 * m 3 0 + x1 * m 3 1 + x2 * m 3 2) := by
      have e : ∀ x y : Int, 0 ≤ x → x = y → 0 ≤ y := fun x y h e => e ▸ h
      refine e _ _ q ?_
      rw [hs 3 0, hs 3 1, hs 3 2]
      clear hx0 hx1 hx2 r3 hq q
      generalize d3 m = D at *
      grind
    have q3 := nn_of q2 p3
    omega
  have l2 : d3 m ≤ d2 m * m 2 2 := by
    obtain ⟨x0, hx0⟩ : ∃ x, x = m 0 2 * m 1 1 - m 0 1 * m 1 2 := ⟨_, rfl⟩
    obtain ⟨x1, hx1⟩ : ∃ x, x = m 0 0 * m 1 2 - m 0 2 * m 1 0 := ⟨_, rfl⟩
    have r0 : x0 * m 0 0 + x1 * m 0 1 = d2 m * m 0 2 := by rw [hx0, hx1]; unfold d2; grind
    have r1 : x0 * m 1 0 + x1 * m 1 1 = d2 m * m 1 2 := by rw [hx0, hx1]; unfold d2; grind
    have r3 : d2 m * m 2 2 - (x0 * m 2 0 + x1 * m 2 1) = d3 m := by rw [hx0, hx1]; unfold d2 d3; grind
    have q := hq x0 x1 0
    have q2 : 0 ≤ d2 m * (x0 * m 2 0 + x1 * m 2 1) := by
      have e : ∀ x y : Int, 0 ≤ x → x = y → 0 ≤ y := fun x y h e => e ▸ h
      refine e _ _ q ?_
      rw [hs 2 0, hs 2 1]
      clear hx0 hx1 r3 hq q l3
      generalize d2 m = D at *
      grind
    have q3 := nn_of q2 p2
    omega
  have l1 : d2 m ≤ m 0 0 * m 1 1 := by
    unfold d2
    rw [hs 1 0]
    have : 0 ≤ m 0 1 * m 0 1 := by
      rcases Int.le_total 0 (m 0 1) with h | h
      · exact Int.mul_nonneg h h
      · exact Int.mul_nonneg_of_nonpos_of_nonpos h h
    omega
  have hB0 : 0 ≤ B := Int.le_trans (hn 0) (hB 0)
  have s1 : d2 m ≤ B * B := Int.le_trans l1 (Int.mul_le_mul (hB 0) (hB 1) (hn 1) hB0)
  have hBB : 0 ≤ B * B := Int.mul_nonneg hB0 hB0
  have s2 : d3 m ≤ B * B * B := Int.le_trans l2 (Int.mul_le_mul s1 (hB 2) (hn 2) hBB)
  exact Int.le_trans l3 (Int.mul_le_mul s2 (hB 3) (hn 3) (Int.mul_nonneg hBB hB0))

end Go.Proofs.Ytgjhikjnlcbmkaa
