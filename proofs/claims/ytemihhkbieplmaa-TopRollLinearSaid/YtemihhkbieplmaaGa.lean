/- No whole amplitudes leave less than the fit (the plain law of RollBest). -/
import Derived.Test.YtemihhkbieplmaaW5
set_option linter.unusedVariables false
set_option linter.unusedSimpArgs false
namespace Go.Proofs.Ytemihhkbieplmaa
open Go.RowKit
set_option maxRecDepth 20000
set_option maxHeartbeats 4000000

theorem det4_form (m : Nat → Nat → Int) : det4 m = m 0 0 * (m 1 1 * (m 2 2 * (m 3 3) - m 2 3 * (m 3 2)) - m 1 2 * (m 2 1 * (m 3 3) - m 2 3 * (m 3 1)) + m 1 3 * (m 2 1 * (m 3 2) - m 2 2 * (m 3 1))) - m 0 1 * (m 1 0 * (m 2 2 * (m 3 3) - m 2 3 * (m 3 2)) - m 1 2 * (m 2 0 * (m 3 3) - m 2 3 * (m 3 0)) + m 1 3 * (m 2 0 * (m 3 2) - m 2 2 * (m 3 0))) + m 0 2 * (m 1 0 * (m 2 1 * (m 3 3) - m 2 3 * (m 3 1)) - m 1 1 * (m 2 0 * (m 3 3) - m 2 3 * (m 3 0)) + m 1 3 * (m 2 0 * (m 3 1) - m 2 1 * (m 3 0))) - m 0 3 * (m 1 0 * (m 2 1 * (m 3 2) - m 2 2 * (m 3 1)) - m 1 1 * (m 2 0 * (m 3 2) - m 2 2 * (m 3 0)) + m 1 2 * (m 2 0 * (m 3 1) - m 2 1 * (m 3 0))) := by
  simp only [det4, det, detSt, detStep, ua, subAt, cond_true, cond_false, Nat.reduceSub]
  grind
theorem cramer0 (a00 a01 a02 a03 a10 a11 a12 a13 a20 a21 a22 a23 a30 a31 a32 a33 r0 r1 r2 r3 : Int) : a00 * (r0 * (a11 * (a22 * (a33) - a23 * (a32)) - a12 * (a21 * (a33) - a23 * (a31)) + a13 * (a21 * (a32) - a22 * (a31))) - a01 * (r1 * (a22 * (a33) - a23 * (a32)) - a12 * (r2 * (a33) - a23 * (r3)) + a13 * (r2 * (a32) - a22 * (r3))) + a02 * (r1 * (a21 * (a33) - a23 * (a31)) - a11 * (r2 * (a33) - a23 * (r3)) + a13 * (r2 * (a31) - a21 * (r3))) - a03 * (r1 * (a21 * (a32) - a22 * (a31)) - a11 * (r2 * (a32) - a22 * (r3)) + a12 * (r2 * (a31) - a21 * (r3)))) + a01 * (a00 * (r1 * (a22 * (a33) - a23 * (a32)) - a12 * (r2 * (a33) - a23 * (r3)) + a13 * (r2 * (a32) - a22 * (r3))) - r0 * (a10 * (a22 * (a33) - a23 * (a32)) - a12 * (a20 * (a33) - a23 * (a30)) + a13 * (a20 * (a32) - a22 * (a30))) + a02 * (a10 * (r2 * (a33) - a23 * (r3)) - r1 * (a20 * (a33) - a23 * (a30)) + a13 * (a20 * (r3) - r2 * (a30))) - a03 * (a10 * (r2 * (a32) - a22 * (r3)) - r1 * (a20 * (a32) - a22 * (a30)) + a12 * (a20 * (r3) - r2 * (a30)))) + a02 * (a00 * (a11 * (r2 * (a33) - a23 * (r3)) - r1 * (a21 * (a33) - a23 * (a31)) + a13 * (a21 * (r3) - r2 * (a31))) - a01 * (a10 * (r2 * (a33) - a23 * (r3)) - r1 * (a20 * (a33) - a23 * (a30)) + a13 * (a20 * (r3) - r2 * (a30))) + r0 * (a10 * (a21 * (a33) - a23 * (a31)) - a11 * (a20 * (a33) - a23 * (a30)) + a13 * (a20 * (a31) - a21 * (a30))) - a03 * (a10 * (a21 * (r3) - r2 * (a31)) - a11 * (a20 * (r3) - r2 * (a30)) + r1 * (a20 * (a31) - a21 * (a30)))) + a03 * (a00 * (a11 * (a22 * (r3) - r2 * (a32)) - a12 * (a21 * (r3) - r2 * (a31)) + r1 * (a21 * (a32) - a22 * (a31))) - a01 * (a10 * (a22 * (r3) - r2 * (a32)) - a12 * (a20 * (r3) - r2 * (a30)) + r1 * (a20 * (a32) - a22 * (a30))) + a02 * (a10 * (a21 * (r3) - r2 * (a31)) - a11 * (a20 * (r3) - r2 * (a30)) + r1 * (a20 * (a31) - a21 * (a30))) - r0 * (a10 * (a21 * (a32) - a22 * (a31)) - a11 * (a20 * (a32) - a22 * (a30)) + a12 * (a20 * (a31) - a21 * (a30)))) = (a00 * (a11 * (a22 * (a33) - a23 * (a32)) - a12 * (a21 * (a33) - a23 * (a31)) + a13 * (a21 * (a32) - a22 * (a31))) - a01 * (a10 * (a22 * (a33) - a23 * (a32)) - a12 * (a20 * (a33) - a23 * (a30)) + a13 * (a20 * (a32) - a22 * (a30))) + a02 * (a10 * (a21 * (a33) - a23 * (a31)) - a11 * (a20 * (a33) - a23 * (a30)) + a13 * (a20 * (a31) - a21 * (a30))) - a03 * (a10 * (a21 * (a32) - a22 * (a31)) - a11 * (a20 * (a32) - a22 * (a30)) + a12 * (a20 * (a31) - a21 * (a30)))) * r0 := by grind
theorem cramer1 (a00 a01 a02 a03 a10 a11 a12 a13 a20 a21 a22 a23 a30 a31 a32 a33 r0 r1 r2 r3 : Int) : a10 * (r0 * (a11 * (a22 * (a33) - a23 * (a32)) - a12 * (a21 * (a33) - a23 * (a31)) + a13 * (a21 * (a32) - a22 * (a31))) - a01 * (r1 * (a22 * (a33) - a23 * (a32)) - a12 * (r2 * (a33) - a23 * (r3)) + a13 * (r2 * (a32) - a22 * (r3))) + a02 * (r1 * (a21 * (a33) - a23 * (a31)) - a11 * (r2 * (a33) - a23 * (r3)) + a13 * (r2 * (a31) - a21 * (r3))) - a03 * (r1 * (a21 * (a32) - a22 * (a31)) - a11 * (r2 * (a32) - a22 * (r3)) + a12 * (r2 * (a31) - a21 * (r3)))) + a11 * (a00 * (r1 * (a22 * (a33) - a23 * (a32)) - a12 * (r2 * (a33) - a23 * (r3)) + a13 * (r2 * (a32) - a22 * (r3))) - r0 * (a10 * (a22 * (a33) - a23 * (a32)) - a12 * (a20 * (a33) - a23 * (a30)) + a13 * (a20 * (a32) - a22 * (a30))) + a02 * (a10 * (r2 * (a33) - a23 * (r3)) - r1 * (a20 * (a33) - a23 * (a30)) + a13 * (a20 * (r3) - r2 * (a30))) - a03 * (a10 * (r2 * (a32) - a22 * (r3)) - r1 * (a20 * (a32) - a22 * (a30)) + a12 * (a20 * (r3) - r2 * (a30)))) + a12 * (a00 * (a11 * (r2 * (a33) - a23 * (r3)) - r1 * (a21 * (a33) - a23 * (a31)) + a13 * (a21 * (r3) - r2 * (a31))) - a01 * (a10 * (r2 * (a33) - a23 * (r3)) - r1 * (a20 * (a33) - a23 * (a30)) + a13 * (a20 * (r3) - r2 * (a30))) + r0 * (a10 * (a21 * (a33) - a23 * (a31)) - a11 * (a20 * (a33) - a23 * (a30)) + a13 * (a20 * (a31) - a21 * (a30))) - a03 * (a10 * (a21 * (r3) - r2 * (a31)) - a11 * (a20 * (r3) - r2 * (a30)) + r1 * (a20 * (a31) - a21 * (a30)))) + a13 * (a00 * (a11 * (a22 * (r3) - r2 * (a32)) - a12 * (a21 * (r3) - r2 * (a31)) + r1 * (a21 * (a32) - a22 * (a31))) - a01 * (a10 * (a22 * (r3) - r2 * (a32)) - a12 * (a20 * (r3) - r2 * (a30)) + r1 * (a20 * (a32) - a22 * (a30))) + a02 * (a10 * (a21 * (r3) - r2 * (a31)) - a11 * (a20 * (r3) - r2 * (a30)) + r1 * (a20 * (a31) - a21 * (a30))) - r0 * (a10 * (a21 * (a32) - a22 * (a31)) - a11 * (a20 * (a32) - a22 * (a30)) + a12 * (a20 * (a31) - a21 * (a30)))) = (a00 * (a11 * (a22 * (a33) - a23 * (a32)) - a12 * (a21 * (a33) - a23 * (a31)) + a13 * (a21 * (a32) - a22 * (a31))) - a01 * (a10 * (a22 * (a33) - a23 * (a32)) - a12 * (a20 * (a33) - a23 * (a30)) + a13 * (a20 * (a32) - a22 * (a30))) + a02 * (a10 * (a21 * (a33) - a23 * (a31)) - a11 * (a20 * (a33) - a23 * (a30)) + a13 * (a20 * (a31) - a21 * (a30))) - a03 * (a10 * (a21 * (a32) - a22 * (a31)) - a11 * (a20 * (a32) - a22 * (a30)) + a12 * (a20 * (a31) - a21 * (a30)))) * r1 := by grind
theorem cramer2 (a00 a01 a02 a03 a10 a11 a12 a13 a20 a21 a22 a23 a30 a31 a32 a33 r0 r1 r2 r3 : Int) : a20 * (r0 * (a11 * (a22 * (a33) - a23 * (a32)) - a12 * (a21 * (a33) - a23 * (a31)) + a13 * (a21 * (a32) - a22 * (a31))) - a01 * (r1 * (a22 * (a33) - a23 * (a32)) - a12 * (r2 * (a33) - a23 * (r3)) + a13 * (r2 * (a32) - a22 * (r3))) + a02 * (r1 * (a21 * (a33) - a23 * (a31)) - a11 * (r2 * (a33) - a23 * (r3)) + a13 * (r2 * (a31) - a21 * (r3))) - a03 * (r1 * (a21 * (a32) - a22 * (a31)) - a11 * (r2 * (a32) - a22 * (r3)) + a12 * (r2 * (a31) - a21 * (r3)))) + a21 * (a00 * (r1 * (a22 * (a33) - a23 * (a32)) - a12 * (r2 * (a33) - a23 * (r3)) + a13 * (r2 * (a32) - a22 * (r3))) - r0 * (a10 * (a22 * (a33) - a23 * (a32)) - a12 * (a20 * (a33) - a23 * (a30)) + a13 * (a20 * (a32) - a22 * (a30))) + a02 * (a10 * (r2 * (a33) - a23 * (r3)) - r1 * (a20 * (a33) - a23 * (a30)) + a13 * (a20 * (r3) - r2 * (a30))) - a03 * (a10 * (r2 * (a32) - a22 * (r3)) - r1 * (a20 * (a32) - a22 * (a30)) + a12 * (a20 * (r3) - r2 * (a30)))) + a22 * (a00 * (a11 * (r2 * (a33) - a23 * (r3)) - r1 * (a21 * (a33) - a23 * (a31)) + a13 * (a21 * (r3) - r2 * (a31))) - a01 * (a10 * (r2 * (a33) - a23 * (r3)) - r1 * (a20 * (a33) - a23 * (a30)) + a13 * (a20 * (r3) - r2 * (a30))) + r0 * (a10 * (a21 * (a33) - a23 * (a31)) - a11 * (a20 * (a33) - a23 * (a30)) + a13 * (a20 * (a31) - a21 * (a30))) - a03 * (a10 * (a21 * (r3) - r2 * (a31)) - a11 * (a20 * (r3) - r2 * (a30)) + r1 * (a20 * (a31) - a21 * (a30)))) + a23 * (a00 * (a11 * (a22 * (r3) - r2 * (a32)) - a12 * (a21 * (r3) - r2 * (a31)) + r1 * (a21 * (a32) - a22 * (a31))) - a01 * (a10 * (a22 * (r3) - r2 * (a32)) - a12 * (a20 * (r3) - r2 * (a30)) + r1 * (a20 * (a32) - a22 * (a30))) + a02 * (a10 * (a21 * (r3) - r2 * (a31)) - a11 * (a20 * (r3) - r2 * (a30)) + r1 * (a20 * (a31) - a21 * (a30))) - r0 * (a10 * (a21 * (a32) - a22 * (a31)) - a11 * (a20 * (a32) - a22 * (a30)) + a12 * (a20 * (a31) - a21 * (a30)))) = (a00 * (a11 * (a22 * (a33) - a23 * (a32)) - a12 * (a21 * (a33) - a23 * (a31)) + a13 * (a21 * (a32) - a22 * (a31))) - a01 * (a10 * (a22 * (a33) - a23 * (a32)) - a12 * (a20 * (a33) - a23 * (a30)) + a13 * (a20 * (a32) - a22 * (a30))) + a02 * (a10 * (a21 * (a33) - a23 * (a31)) - a11 * (a20 * (a33) - a23 * (a30)) + a13 * (a20 * (a31) - a21 * (a30))) - a03 * (a10 * (a21 * (a32) - a22 * (a31)) - a11 * (a20 * (a32) - a22 * (a30)) + a12 * (a20 * (a31) - a21 * (a30)))) * r2 := by grind
theorem cramer3 (a00 a01 a02 a03 a10 a11 a12 a13 a20 a21 a22 a23 a30 a31 a32 a33 r0 r1 r2 r3 : Int) : a30 * (r0 * (a11 * (a22 * (a33) - a23 * (a32)) - a12 * (a21 * (a33) - a23 * (a31)) + a13 * (a21 * (a32) - a22 * (a31))) - a01 * (r1 * (a22 * (a33) - a23 * (a32)) - a12 * (r2 * (a33) - a23 * (r3)) + a13 * (r2 * (a32) - a22 * (r3))) + a02 * (r1 * (a21 * (a33) - a23 * (a31)) - a11 * (r2 * (a33) - a23 * (r3)) + a13 * (r2 * (a31) - a21 * (r3))) - a03 * (r1 * (a21 * (a32) - a22 * (a31)) - a11 * (r2 * (a32) - a22 * (r3)) + a12 * (r2 * (a31) - a21 * (r3)))) + a31 * (a00 * (r1 * (a22 * (a33) - a23 * (a32)) - a12 * (r2 * (a33) - a23 * (r3)) + a13 * (r2 * (a32) - a22 * (r3))) - r0 * (a10 * (a22 * (a33) - a23 * (a32)) - a12 * (a20 * (a33) - a23 * (a30)) + a13 * (a20 * (a32) - a22 * (a30))) + a02 * (a10 * (r2 * (a33) - a23 * (r3)) - r1 * (a20 * (a33) - a23 * (a30)) + a13 * (a20 * (r3) - r2 * (a30))) - a03 * (a10 * (r2 * (a32) - a22 * (r3)) - r1 * (a20 * (a32) - a22 * (a30)) + a12 * (a20 * (r3) - r2 * (a30)))) + a32 * (a00 * (a11 * (r2 * (a33) - a23 * (r3)) - r1 * (a21 * (a33) - a23 * (a31)) + a13 * (a21 * (r3) - r2 * (a31))) - a01 * (a10 * (r2 * (a33) - a23 * (r3)) - r1 * (a20 * (a33) - a23 * (a30)) + a13 * (a20 * (r3) - r2 * (a30))) + r0 * (a10 * (a21 * (a33) - a23 * (a31)) - a11 * (a20 * (a33) - a23 * (a30)) + a13 * (a20 * (a31) - a21 * (a30))) - a03 * (a10 * (a21 * (r3) - r2 * (a31)) - a11 * (a20 * (r3) - r2 * (a30)) + r1 * (a20 * (a31) - a21 * (a30)))) + a33 * (a00 * (a11 * (a22 * (r3) - r2 * (a32)) - a12 * (a21 * (r3) - r2 * (a31)) + r1 * (a21 * (a32) - a22 * (a31))) - a01 * (a10 * (a22 * (r3) - r2 * (a32)) - a12 * (a20 * (r3) - r2 * (a30)) + r1 * (a20 * (a32) - a22 * (a30))) + a02 * (a10 * (a21 * (r3) - r2 * (a31)) - a11 * (a20 * (r3) - r2 * (a30)) + r1 * (a20 * (a31) - a21 * (a30))) - r0 * (a10 * (a21 * (a32) - a22 * (a31)) - a11 * (a20 * (a32) - a22 * (a30)) + a12 * (a20 * (a31) - a21 * (a30)))) = (a00 * (a11 * (a22 * (a33) - a23 * (a32)) - a12 * (a21 * (a33) - a23 * (a31)) + a13 * (a21 * (a32) - a22 * (a31))) - a01 * (a10 * (a22 * (a33) - a23 * (a32)) - a12 * (a20 * (a33) - a23 * (a30)) + a13 * (a20 * (a32) - a22 * (a30))) + a02 * (a10 * (a21 * (a33) - a23 * (a31)) - a11 * (a20 * (a33) - a23 * (a30)) + a13 * (a20 * (a31) - a21 * (a30))) - a03 * (a10 * (a21 * (a32) - a22 * (a31)) - a11 * (a20 * (a32) - a22 * (a30)) + a12 * (a20 * (a31) - a21 * (a30)))) * r3 := by grind
theorem col0 (m : Nat → Nat → Int) (r : Nat → Int) (j a c : Nat) (ha : a < 4) : colTo m r j 4 a c = if c = j then r a else m a c := by
  unfold colTo; by_cases h : c = j <;> simp [h, ha]
theorem cramer_all (m : Nat → Nat → Int) (r : Nat → Int) : (m 0 0 * fitPart m r 0 + m 0 1 * fitPart m r 1 + m 0 2 * fitPart m r 2 + m 0 3 * fitPart m r 3 = fitDen m * r 0) ∧ (m 1 0 * fitPart m r 0 + m 1 1 * fitPart m r 1 + m 1 2 * fitPart m r 2 + m 1 3 * fitPart m r 3 = fitDen m * r 1) ∧ (m 2 0 * fitPart m r 0 + m 2 1 * fitPart m r 1 + m 2 2 * fitPart m r 2 + m 2 3 * fitPart m r 3 = fitDen m * r 2) ∧ (m 3 0 * fitPart m r 0 + m 3 1 * fitPart m r 1 + m 3 2 * fitPart m r 2 + m 3 3 * fitPart m r 3 = fitDen m * r 3) := by
  unfold fitDen fitPart
  simp only [det4_form, col0 _ _ _ _ _ (show 0 < 4 by decide), col0 _ _ _ _ _ (show 1 < 4 by decide), col0 _ _ _ _ _ (show 2 < 4 by decide), col0 _ _ _ _ _ (show 3 < 4 by decide)]
  simp only [reduceIte, Nat.reduceEqDiff]
  exact ⟨cramer0 (m 0 0) (m 0 1) (m 0 2) (m 0 3) (m 1 0) (m 1 1) (m 1 2) (m 1 3) (m 2 0) (m 2 1) (m 2 2) (m 2 3) (m 3 0) (m 3 1) (m 3 2) (m 3 3) (r 0) (r 1) (r 2) (r 3), cramer1 (m 0 0) (m 0 1) (m 0 2) (m 0 3) (m 1 0) (m 1 1) (m 1 2) (m 1 3) (m 2 0) (m 2 1) (m 2 2) (m 2 3) (m 3 0) (m 3 1) (m 3 2) (m 3 3) (r 0) (r 1) (r 2) (r 3), cramer2 (m 0 0) (m 0 1) (m 0 2) (m 0 3) (m 1 0) (m 1 1) (m 1 2) (m 1 3) (m 2 0) (m 2 1) (m 2 2) (m 2 3) (m 3 0) (m 3 1) (m 3 2) (m 3 3) (r 0) (r 1) (r 2) (r 3), cramer3 (m 0 0) (m 0 1) (m 0 2) (m 0 3) (m 1 0) (m 1 1) (m 1 2) (m 1 3) (m 2 0) (m 2 1) (m 2 2) (m 2 3) (m 3 0) (m 3 1) (m 3 2) (m 3 3) (r 0) (r 1) (r 2) (r 3)⟩
theorem fitG_den (m : Nat → Nat → Int) (r : Nat → Int) : ∀ j, fitG m r j ∣ fitDen m
  | 0 => Int.dvd_refl _
  | j + 1 => Int.dvd_trans (Int.gcd_dvd_left _ _) (fitG_den m r j)
theorem fitG_step (m : Nat → Nat → Int) (r : Nat → Int) : ∀ j d, fitG m r (j + d) ∣ fitG m r j
  | _, 0 => Int.dvd_refl _
  | j, d + 1 => Int.dvd_trans (Int.gcd_dvd_left _ _) (fitG_step m r j d)
theorem fitG_part (m : Nat → Nat → Int) (r : Nat → Int) (j : Nat) (hj : j < 4) : fitG m r 4 ∣ fitPart m r j := by
  have h1 : fitG m r 4 ∣ fitG m r (j + 1) := by
    have := fitG_step m r (j + 1) (3 - j)
    rwa [show j + 1 + (3 - j) = 4 by omega] at this
  exact Int.dvd_trans h1 (Int.gcd_dvd_right _ _)
theorem pull (g a b c d x y z w D R : Int) (h : a * (g * x) + b * (g * y) + c * (g * z) + d * (g * w) = g * D * R) : g * (a * x + b * y + c * z + d * w) = g * (D * R) := by grind
/-- The fit solves the equations. -/
theorem fit_normal (m : Nat → Nat → Int) (r : Nat → Int) (hz : fitDen m ≠ 0) : ∀ i, i < 4 → m i 0 * fitQ m r 0 + m i 1 * fitQ m r 1 + m i 2 * fitQ m r 2 + m i 3 * fitQ m r 3 = fitD m r * r i := by
  have hd : fitG m r 4 * fitD m r = fitDen m := Int.mul_tdiv_cancel' (fitG_den m r 4)
  have hq : ∀ j, j < 4 → fitG m r 4 * fitQ m r j = fitPart m r j := fun j hj => Int.mul_tdiv_cancel' (fitG_part m r j hj)
  have hg : fitG m r 4 ≠ 0 := fun e => hz (by rw [← hd, e, Int.zero_mul])
  obtain ⟨c0, c1, c2, c3⟩ := cramer_all m r
  rw [← hd, ← hq 0 (by omega), ← hq 1 (by omega), ← hq 2 (by omega), ← hq 3 (by omega)] at c0 c1 c2 c3
  intro i hi
  apply Int.eq_of_mul_eq_mul_left hg
  obtain rfl | rfl | rfl | rfl : i = 0 ∨ i = 1 ∨ i = 2 ∨ i = 3 := by omega
  · exact pull _ _ _ _ _ _ _ _ _ _ _ c0
  · exact pull _ _ _ _ _ _ _ _ _ _ _ c1
  · exact pull _ _ _ _ _ _ _ _ _ _ _ c2
  · exact pull _ _ _ _ _ _ _ _ _ _ _ c3

theorem sumTo_congr {f g : Nat → Int} : ∀ n, (∀ k, k < n → f k = g k) → sumTo f n = sumTo g n
  | 0, _ => rfl
  | n + 1, h => by unfold sumTo; rw [sumTo_congr n fun k hk => h k (by omega), h n (by omega)]
theorem ortho (W : Nat → Nat → Int) (x : Nat → Int) (D F0 F1 F2 F3 : Int) (i : Nat) : ∀ K, sumTo (fun k => (D * x k - (F0 * W k 0 + F1 * W k 1 + F2 * W k 2 + F3 * W k 3)) * W k i) K =
    D * sumTo (fun k => W k i * x k) K - (sumTo (fun k => W k i * W k 0) K * F0 + sumTo (fun k => W k i * W k 1) K * F1 + sumTo (fun k => W k i * W k 2) K * F2 + sumTo (fun k => W k i * W k 3) K * F3)
  | 0 => by simp [sumTo]
  | K + 1 => by
    have h := ortho W x D F0 F1 F2 F3 i K
    unfold sumTo
    rw [h]
    generalize sumTo (fun k => W k i * x k) K = A
    generalize sumTo (fun k => W k i * W k 0) K = B
    generalize sumTo (fun k => W k i * W k 1) K = C
    generalize sumTo (fun k => W k i * W k 2) K = E
    generalize sumTo (fun k => W k i * W k 3) K = G
    grind
theorem wave_bnd2 {p o re im k B : Int} (h1 : -B ≤ re ∧ re ≤ B) (h2 : -B ≤ im ∧ im ≤ B) : -B ≤ wave p o re im k ∧ wave p o re im k ≤ B := by
  unfold wave waveQ
  split
  · omega
  · split
    · omega
    · split <;> omega
theorem wave_lin (p o re im k : Int) : wave p o re im k = re * wave p o 1 0 k + im * wave p o 0 1 k := by
  unfold wave waveQ
  split
  · omega
  · split
    · omega
    · split <;> omega
end Go.Proofs.Ytemihhkbieplmaa
