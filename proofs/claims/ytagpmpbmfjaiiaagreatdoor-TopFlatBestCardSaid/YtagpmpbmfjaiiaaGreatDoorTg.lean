/- The law FlatBounded: what it answers. -/
import Derived.Test.YtagpmpbmfjaiiaaGreatDoorTf
import Derived.Test.YtagpmpbmfjaiiaaGreatDoorTk
set_option linter.unusedVariables false
set_option linter.unusedSimpArgs false
namespace Go.Proofs.YtagpmpbmfjaiiaaGreatDoor
open Go.RowKit
set_option maxRecDepth 20000
set_option maxHeartbeats 8000000

/-- Settings within their ranges are among all settings, and the other way round. -/
theorem InS_iff : ∀ (A : List Act3) (xs : List Int), InS A xs ↔ xs.length = A.length ∧ ∀ k, k < A.length → (A.getD k a0).lo ≤ nth xs k ∧ nth xs k ≤ (A.getD k a0).hi
  | [], [] => by simp [InS]
  | [], x :: xs => by simp [InS]
  | a :: A, [] => by simp [InS]
  | a :: A, x :: xs => by
    have ih := InS_iff A xs
    constructor
    · rintro ⟨h1, h2⟩
      obtain ⟨h3, h4⟩ := ih.1 h2
      refine ⟨by simp [h3], fun k hk => ?_⟩
      cases k with
      | zero => exact h1
      | succ k => exact h4 k (by simpa using hk)
    · rintro ⟨h1, h2⟩
      refine ⟨h2 0 (by simp), ih.2 ⟨by simpa using h1, fun k hk => h2 (k + 1) (by simpa using hk)⟩⟩
theorem outTo_false {A : List Act3} {xs : List Int} : ∀ n, (∀ k, k < n → inR (nth xs k) (A.getD k a0).lo (A.getD k a0).hi = true) → outTo A xs n = false
  | 0, _ => rfl
  | n + 1, h => by
    show (outTo A xs n || !inR (nth xs n) (A.getD n a0).lo (A.getD n a0).hi) = false
    rw [outTo_false n fun k hk => h k (by omega), h n (by omega)]; rfl
theorem setE_iff {A : List Act3} {xs : List Int} : setE A xs = 0 ↔ xs ∈ allS A := by
  rw [mem_allS, InS_iff]
  constructor
  · exact setE_ok
  · rintro ⟨h1, h2⟩
    rw [setE_out (by omega), outTo_false _ fun k hk => inR_iff.2 (h2 k hk)]; rfl

/-! Twice as great weights. -/
/-! No settings are better than the bound. -/
theorem low_mul {n d : Int} (h : 0 < d) : 0 < (Int.gcd n d : Int) ∧ n = (Int.gcd n d : Int) * (low n d).1 ∧ d = (Int.gcd n d : Int) * (low n d).2 := by
  have hp := Int.gcd_pos_of_ne_zero_right n (b := d) (by omega)
  refine ⟨by omega, ?_, ?_⟩
  · exact (Int.mul_tdiv_cancel' (Int.gcd_dvd_left ..)).symm
  · exact (Int.mul_ediv_cancel' (Int.gcd_dvd_right ..)).symm
theorem low_lowP {n d : Int} (h : 0 < d) : lowP (low n d) = true := by
  obtain ⟨h1, h2, h3⟩ := low_mul (n := n) h
  have hg : Int.gcd (low n d).1 (low n d).2 = 1 := by
    have := Int.gcd_mul_left (Int.gcd n d : Int) (low n d).1 (low n d).2
    rw [← h2, ← h3] at this
    have e : (Int.gcd n d : Int).natAbs = Int.gcd n d := by omega
    rw [e] at this
    have h4 : 0 < Int.gcd n d := by omega
    exact Nat.eq_of_mul_eq_mul_left h4 (by rw [← this, Nat.mul_one])
  unfold lowP
  rw [hg, decide_eq_true (low_pos h)]; rfl
/-- The weighted sum of deviations with the first j actuators. -/
def wdev (T : List Int) (A : List Act3) (xs w : List Int) (j : Nat) : Nat → Int
  | 0 => 0
  | k + 1 => wdev T A xs w j k + nth w k * devTo T A xs k j
theorem wdev_zero (T : List Int) (A : List Act3) (xs w : List Int) : ∀ k, wdev T A xs w 0 k = numT T w k
  | 0 => rfl
  | k + 1 => by unfold wdev numT; rw [wdev_zero T A xs w k]; rfl
theorem wdev_succ (T : List Int) (A : List Act3) (xs w : List Int) (j : Nat) : ∀ k, wdev T A xs w (j + 1) k = wdev T A xs w j k - nth xs j * numT (A.getD j a0).eff w k
  | 0 => by simp [wdev, numT]
  | k + 1 => by
    show wdev T A xs w (j + 1) k + nth w k * (devTo T A xs k j - nth xs j * nth (A.getD j a0).eff k) = wdev T A xs w j k + nth w k * devTo T A xs k j - nth xs j * (numT (A.getD j a0).eff w k + nth w k * nth (A.getD j a0).eff k)
    rw [wdev_succ T A xs w j k]
    grind
theorem mul_le_max {s c lo hi : Int} (h1 : lo ≤ s) (h2 : s ≤ hi) : s * c ≤ max (c * lo) (c * hi) := by
  rw [Int.mul_comm s c]
  by_cases hc : 0 ≤ c
  · have := Int.mul_le_mul_of_nonneg_left h2 hc; omega
  · have := Int.mul_le_mul_of_nonpos_left (a := c) (by omega) h1; omega
theorem num2_le {T : List Int} {A : List Act3} {xs w : List Int} (hx : ∀ k, k < A.length → (A.getD k a0).lo ≤ nth xs k ∧ nth xs k ≤ (A.getD k a0).hi) : ∀ j, j ≤ A.length → num2 (numT T w w.length) A w j ≤ wdev T A xs w j w.length
  | 0, _ => by rw [wdev_zero]; exact Int.le_refl _
  | j + 1, hj => by
    have h1 := num2_le hx (T := T) (w := w) j (by omega)
    have h2 := hx j (by omega)
    have h3 := mul_le_max (c := numT (A.getD j a0).eff w w.length) h2.1 h2.2
    rw [wdev_succ]
    show num2 (numT T w w.length) A w j - _ ≤ _
    omega
theorem wdev_le {T : List Int} {A : List Act3} {xs w : List Int} {m : Int} (hm : ∀ k, k < w.length → ((devP T A xs k).natAbs : Int) ≤ m) : ∀ k, k ≤ w.length → wdev T A xs w A.length k ≤ m * denT w k
  | 0, _ => by simp [wdev, denT]
  | k + 1, hk => by
    have h1 := wdev_le hm k (by omega)
    have h2 := hm k (by omega)
    have h3 : nth w k * devP T A xs k ≤ ((nth w k).natAbs : Int) * m := by
      have e1 : nth w k * devP T A xs k ≤ ((nth w k * devP T A xs k).natAbs : Int) := by omega
      rw [Int.natAbs_mul] at e1
      have e2 : ((nth w k).natAbs : Int) * ((devP T A xs k).natAbs : Int) ≤ ((nth w k).natAbs : Int) * m := Int.mul_le_mul_of_nonneg_left h2 (by omega)
      have e3 : (((nth w k).natAbs * (devP T A xs k).natAbs : Nat) : Int) = ((nth w k).natAbs : Int) * ((devP T A xs k).natAbs : Int) := Int.natCast_mul _ _
      omega
    show wdev T A xs w A.length k + nth w k * devP T A xs k ≤ m * (denT w k + (nth w k).natAbs)
    rw [Int.mul_add, Int.mul_comm m ((nth w k).natAbs : Int)]
    omega
theorem maxTo_ge (T : List Int) (A : List Act3) (xs : List Int) : ∀ n k, k < n → ((devP T A xs k).natAbs : Int) ≤ maxTo T A xs n
  | 0, k, h => by omega
  | n + 1, k, h => by
    unfold maxTo
    by_cases e : k = n
    · subst e; omega
    · have := maxTo_ge T A xs n k (by omega); omega
theorem bound_le {T : List Int} {A : List Act3} {w xs : List Int} (hw : w.length = T.length) (hz : 0 < denT w w.length) (hx : ∀ k, k < A.length → (A.getD k a0).lo ≤ nth xs k ∧ nth xs k ≤ (A.getD k a0).hi) :
    (low (num2 (numT T w w.length) A w A.length) (denT w w.length)).1 * 1 - maxP T A xs * (low (num2 (numT T w w.length) A w A.length) (denT w w.length)).2 ≤ 0 := by
  have h1 := num2_le hx (T := T) (w := w) A.length (Nat.le_refl _)
  have h2 := wdev_le (T := T) (A := A) (xs := xs) (w := w) (m := maxP T A xs) (fun k hk => maxTo_ge T A xs T.length k (by omega)) w.length (Nat.le_refl _)
  obtain ⟨g1, g2, g3⟩ := low_mul (n := num2 (numT T w w.length) A w A.length) hz
  generalize low (num2 (numT T w w.length) A w A.length) (denT w w.length) = f at *
  generalize (Int.gcd (num2 (numT T w w.length) A w A.length) (denT w w.length) : Int) = g at *
  generalize maxP T A xs = m at *
  have h3 : g * f.1 ≤ g * (m * f.2) := by
    have e : g * (m * f.2) = m * (g * f.2) := by rw [Int.mul_left_comm]
    rw [e, ← g2, ← g3]; omega
  have h4 := Int.le_of_mul_le_mul_left h3 g1
  omega
end Go.Proofs.YtagpmpbmfjaiiaaGreatDoor
