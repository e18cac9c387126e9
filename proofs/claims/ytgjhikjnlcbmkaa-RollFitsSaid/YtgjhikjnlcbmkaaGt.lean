/- The least denominator of four ratios (chapter 6). Nothing of the program. -/
import Derived.Test.YtgjhikjnlcbmkaaM9
set_option linter.unusedVariables false
set_option linter.unusedSimpArgs false
namespace Go.Proofs.Ytgjhikjnlcbmkaa
open Go.RowKit
set_option maxRecDepth 20000

theorem den_mul (r : Rat) : r * ((r.den : Int) : Rat) = (r.num : Rat) := by
  have e := Rat.num_divInt_den r
  have hd : ((r.den : Int) : Rat) ≠ 0 := by exact_mod_cast r.den_nz
  have h : Rat.divInt r.num r.den * ((r.den : Int) : Rat) = (r.num : Rat) := by
    rw [Rat.divInt_eq_div]; grind
  rwa [e] at h
theorem den_dvd {r : Rat} {e z : Int} (h : r * (e : Rat) = (z : Rat)) : (r.den : Int) ∣ e := by
  have hd : (r.den : Rat) ≠ 0 := by exact_mod_cast r.den_nz
  have h1 : ((r.num * e : Int) : Rat) = ((z * (r.den : Int) : Int) : Rat) := by
    have h2 : r * ((r.den : Int) : Rat) = (r.num : Rat) := den_mul r
    rw [Rat.intCast_mul, Rat.intCast_mul, ← h2, ← h]
    grind
  have h3 : r.num * e = z * (r.den : Int) := by exact_mod_cast h1
  have h4 : r.den ∣ (r.num * e).natAbs := by
    rw [h3, Int.natAbs_mul]
    exact Nat.dvd_mul_left _ _
  rw [Int.natAbs_mul] at h4
  have h5 := (Nat.Coprime.symm r.reduced).dvd_of_dvd_mul_left h4
  exact Int.dvd_natAbs.1 (Int.natCast_dvd_natCast.2 h5)
def lcdQ (v : Nat → Rat) : Nat → Int
  | 0 => 1
  | k + 1 => lcdQ v k * ((v k * (lcdQ v k : Rat)).den : Int)
theorem lcdQ_pos (v : Nat → Rat) : ∀ k, 0 < lcdQ v k
  | 0 => by show (0 : Int) < 1; decide
  | k + 1 => Int.mul_pos (lcdQ_pos v k) (by have := (v k * (lcdQ v k : Rat)).den_nz; omega)
theorem lcdQ_int (v : Nat → Rat) : ∀ {k j : Nat}, j < k → ∃ z : Int, v j * (lcdQ v k : Rat) = (z : Rat)
  | k + 1, j, h => by
    unfold lcdQ
    by_cases e : j = k
    · subst e
      refine ⟨(v j * (lcdQ v j : Rat)).num, ?_⟩
      rw [Rat.intCast_mul, ← den_mul]
      grind
    · obtain ⟨z, hz⟩ := lcdQ_int v (k := k) (j := j) (by omega)
      refine ⟨z * ((v k * (lcdQ v k : Rat)).den : Int), ?_⟩
      rw [Rat.intCast_mul, Rat.intCast_mul, ← hz]
      grind
theorem lcdQ_dvd (v : Nat → Rat) {d : Int} : ∀ {k : Nat}, (∀ j, j < k → ∃ z : Int, v j * (d : Rat) = (z : Rat)) → lcdQ v k ∣ d
  | 0, _ => Int.one_dvd d
  | k + 1, h => by
    obtain ⟨e, rfl⟩ := lcdQ_dvd v (k := k) fun j hj => h j (by omega)
    obtain ⟨z, hz⟩ := h k (by omega)
    show lcdQ v k * ((v k * (lcdQ v k : Rat)).den : Int) ∣ lcdQ v k * e
    refine Int.mul_dvd_mul_left _ (den_dvd (z := z) ?_)
    rw [← hz, Rat.intCast_mul]
    grind
theorem lcdQ_eq {v : Nat → Rat} {p : Nat → Int} {D g E : Int} {q : Nat → Int} (hE : 0 < E) (hg : g ≠ 0) (hD : D = g * E) (hv : ∀ j, j < 4 → v j * (D : Rat) = (p j : Rat)) (hp : ∀ j, j < 4 → p j = g * q j)
    (hc : Int.gcd (Int.gcd (Int.gcd (Int.gcd E (q 0)) (q 1)) (q 2)) (q 3) = 1) : lcdQ v 4 = E ∧ ∀ j, j < 4 → v j * (E : Rat) = (q j : Rat) := by
  have hg0 : (g : Rat) ≠ 0 := by exact_mod_cast hg
  have hq : ∀ j, j < 4 → v j * (E : Rat) = (q j : Rat) := fun j hj => by
    have h1 := hv j hj
    rw [hD, hp j hj, Rat.intCast_mul, Rat.intCast_mul] at h1
    grind
  refine ⟨?_, hq⟩
  have h1 : lcdQ v 4 ∣ E := lcdQ_dvd v fun j hj => ⟨q j, hq j hj⟩
  have hL := lcdQ_pos v 4
  have h2 : ∀ j, j < 4 → E ∣ lcdQ v 4 * q j := fun j hj => by
    obtain ⟨z, hz⟩ := lcdQ_int v hj
    refine ⟨z, ?_⟩
    have e : ((lcdQ v 4 * q j : Int) : Rat) = ((E * z : Int) : Rat) := by
      rw [Rat.intCast_mul, Rat.intCast_mul, ← hz, ← hq j hj]
      grind
    exact_mod_cast e
  have step : ∀ a b : Int, E ∣ lcdQ v 4 * a → E ∣ lcdQ v 4 * b → E ∣ lcdQ v 4 * (Int.gcd a b : Int) := fun a b ha hb => by
    have := Int.dvd_coe_gcd ha hb
    rw [Int.gcd_mul_left] at this
    have h3 : ((lcdQ v 4).natAbs : Int) = lcdQ v 4 := by omega
    rw [Int.natCast_mul, h3] at this
    exact this
  have k0 := step E (q 0) (Int.dvd_mul_left _ _) (h2 0 (by omega))
  have k1 := step _ (q 1) k0 (h2 1 (by omega))
  have k2 := step _ (q 2) k1 (h2 2 (by omega))
  have k3 := step _ (q 3) k2 (h2 3 (by omega))
  rw [hc] at k3
  have k3 : E ∣ lcdQ v 4 := by simpa using k3
  exact Int.dvd_antisymm (by omega) (by omega) h1 k3
theorem gcd_left {D g E p0 p1 p2 p3 q0 q1 q2 q3 : Int} (hg : 0 < g) (hD : D = g * E) (h0 : p0 = g * q0) (h1 : p1 = g * q1) (h2 : p2 = g * q2) (h3 : p3 = g * q3) (h : (Int.gcd (Int.gcd (Int.gcd (Int.gcd D p0) p1) p2) p3 : Int) = g) : Int.gcd (Int.gcd (Int.gcd (Int.gcd E q0) q1) q2) q3 = 1 := by
  have st : ∀ a b : Int, (Int.gcd (g * a) (g * b) : Int) = g * (Int.gcd a b : Int) := fun a b => by
    rw [Int.gcd_mul_left, Int.natCast_mul]
    congr 1
    omega
  rw [hD, h0, h1, h2, h3, st, st, st, st] at h
  have h5 : g * (Int.gcd (Int.gcd (Int.gcd (Int.gcd E q0) q1) q2) q3 : Int) = g * 1 := by rw [Int.mul_one]; exact h
  have h6 := Int.eq_of_mul_eq_mul_left (by omega) h5
  exact_mod_cast h6

end Go.Proofs.Ytgjhikjnlcbmkaa
