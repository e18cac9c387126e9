/- The fit by elimination: the plain law of the reference's Fit (chapter 6). Nothing of the program. -/
import Derived.Test.YtgjhikjnlcbmkaaGr
import Derived.Test.YtgjhikjnlcbmkaaGt
import Derived.Test.YtgjhikjnlcbmkaaSl
set_option linter.unusedVariables false
set_option linter.unusedSimpArgs false
namespace Go.Proofs.Ytgjhikjnlcbmkaa
open Go.RowKit
set_option maxRecDepth 20000

def eqQ (M : Nat → Nat → Int) (R : Nat → Int) : Mq := fun i j => if j < 4 then ((M i j : Int) : Rat) else ((R i : Int) : Rat)
theorem eqQ_det (M : Nat → Nat → Int) (R : Nat → Int) : detQ (eqQ M R) = ((fitDen M : Int) : Rat) := by
  unfold fitDen
  rw [det4_form]
  unfold detQ eqQ
  simp only [show (0 : Nat) < 4 by decide, show (1 : Nat) < 4 by decide, show (2 : Nat) < 4 by decide, show (3 : Nat) < 4 by decide, if_true]
  simp only [Rat.intCast_mul, Rat.intCast_add, Rat.intCast_sub]
theorem eqQ_cramer (M : Nat → Nat → Int) (R : Nat → Int) : ∀ i, i < 4 → eqQ M R i 0 * ((fitPart M R 0 : Int) : Rat) + eqQ M R i 1 * ((fitPart M R 1 : Int) : Rat) + eqQ M R i 2 * ((fitPart M R 2 : Int) : Rat) + eqQ M R i 3 * ((fitPart M R 3 : Int) : Rat) = ((fitDen M : Int) : Rat) * eqQ M R i 4 := by
  intro i hi
  have h : M i 0 * fitPart M R 0 + M i 1 * fitPart M R 1 + M i 2 * fitPart M R 2 + M i 3 * fitPart M R 3 = fitDen M * R i := by
    obtain ⟨c0, c1, c2, c3⟩ := cramer_all M R
    have hc : i = 0 ∨ i = 1 ∨ i = 2 ∨ i = 3 := by omega
    rcases hc with rfl | rfl | rfl | rfl
    · exact c0
    · exact c1
    · exact c2
    · exact c3
  have h2 : ((M i 0 * fitPart M R 0 + M i 1 * fitPart M R 1 + M i 2 * fitPart M R 2 + M i 3 * fitPart M R 3 : Int) : Rat) = ((fitDen M * R i : Int) : Rat) := by rw [h]
  simp only [Rat.intCast_mul, Rat.intCast_add] at h2
  unfold eqQ
  simp only [show (0 : Nat) < 4 by decide, show (1 : Nat) < 4 by decide, show (2 : Nat) < 4 by decide, show (3 : Nat) < 4 by decide, show ¬ (4 : Nat) < 4 by decide, if_true, if_false]
  exact h2
theorem wlen_le1 {x : Int} (h : x.natAbs < 1000000000) : wlen x ≤ 1 := dg_len_le (by
  have : (1000000000 : Int) ^ 1 = 1000000000 := by decide
  omega)
theorem wlen_le2 {x : Int} (h : x.natAbs < 1000000000000000000) : wlen x ≤ 2 := dg_len_le (by
  have : (1000000000 : Int) ^ 2 = 1000000000000000000 := by decide
  omega)
theorem ratS_int {x : Int} {k : Nat} (h : wlen x ≤ k) (hk : 1 ≤ k) : RatS k ((x : Int) : Rat) := ⟨h, Nat.le_trans (wlen_le1 (x := 1) (by decide)) hk⟩
theorem eqQ_S {M : Nat → Nat → Int} {R : Nat → Int} (h : EqB M R) : RatM 1 (eqQ M R) := fun i j _ _ => by
  unfold eqQ
  split
  · exact ratS_int (wlen_le1 (by have := h.1 i j; omega)) (Nat.le_refl _)
  · exact ratS_int (wlen_le1 (by have := h.2 i; omega)) (Nat.le_refl _)
theorem fit_elim {W : Nat → Nat → Int} {K : Nat} {M : Nat → Nat → Int} {R : Nat → Int} (hM : M = eqM W K) (hE : EqB M R) :
    (slvQ (eqQ M R) 0 4 = none → fitDen M = 0) ∧ ∀ n, slvQ (eqQ M R) 0 4 = some n → fitDen M ≠ 0 ∧ 0 < fitDen M ∧ 0 < fitD M R ∧ ∃ v : Nat → Rat, solL n = [v 0, v 1, v 2, v 3] ∧ (∀ j, j < 4 → v j = ((fitPart M R j : Int) : Rat) / ((fitDen M : Int) : Rat)) ∧ lcdQ v 4 = fitD M R ∧ (∀ j, j < 4 → v j * ((fitD M R : Int) : Rat) = ((fitQ M R j : Int) : Rat)) ∧ (∀ j, j < 4 → RatS 2 (v j)) ∧ ∀ j, j ≤ 4 → wlen (lcdQ v j) ≤ 2 := by
  obtain ⟨h1, h2⟩ := slv_cramer (p := fitPart M R) (eqQ_det M R) (eqQ_cramer M R)
  refine ⟨h1, fun n hn => ?_⟩
  obtain ⟨hD, hv⟩ := h2 n hn
  have hpos : 0 < fitDen M := by
    unfold fitDen at hD ⊢
    rw [det4_form] at hD ⊢
    exact gram_pos W K M (fun i j => by rw [hM]) hD
  have hG : 0 < fitG M R 4 := by
    have h4 : fitG M R 4 ∣ fitDen M := fitG_den M R 4
    have h5 : 0 ≤ fitG M R 4 := by
      show (0 : Int) ≤ ((Int.gcd (fitG M R 3) (fitPart M R 3) : Nat) : Int)
      omega
    refine Int.lt_iff_le_and_ne.2 ⟨h5, fun e => ?_⟩
    rw [← e] at h4
    exact hD (Int.zero_dvd.1 h4)
  have hd : fitG M R 4 * fitD M R = fitDen M := Int.mul_tdiv_cancel' (fitG_den M R 4)
  have hq : ∀ j, j < 4 → fitG M R 4 * fitQ M R j = fitPart M R j := fun j hj => Int.mul_tdiv_cancel' (fitG_part M R j hj)
  have hDp : 0 < fitD M R := by
    refine Int.not_le.1 fun h => ?_
    have := Int.mul_nonpos_of_nonneg_of_nonpos (Int.le_of_lt hG) h
    omega
  have hD0 : ((fitDen M : Int) : Rat) ≠ 0 := by exact_mod_cast hD
  let v : Nat → Rat := fun j => ((fitPart M R j : Int) : Rat) / ((fitDen M : Int) : Rat)
  have hvD : ∀ j, j < 4 → v j * ((fitDen M : Int) : Rat) = ((fitPart M R j : Int) : Rat) := fun j _ => by
    show ((fitPart M R j : Int) : Rat) / ((fitDen M : Int) : Rat) * ((fitDen M : Int) : Rat) = _
    grind
  have hl := lcdQ_eq (v := v) (p := fitPart M R) (D := fitDen M) (g := fitG M R 4) (E := fitD M R) (q := fitQ M R) hDp (by omega) hd.symm hvD (fun j hj => (hq j hj).symm) (by
    refine gcd_left (D := fitDen M) hG hd.symm (hq 0 (by omega)).symm (hq 1 (by omega)).symm (hq 2 (by omega)).symm (hq 3 (by omega)).symm rfl)
  refine ⟨hD, hpos, hDp, v, ?_, fun _ _ => rfl, hl.1, hl.2, fun j hj => ?_, fun j hj => ?_⟩
  · unfold solL
    rw [hv 0 (by omega), hv 1 (by omega), hv 2 (by omega), hv 3 (by omega)]
  · have hb := hE.part j hj
    have hb2 := hE.den
    show RatS 2 (((fitPart M R j : Int) : Rat) / ((fitDen M : Int) : Rat))
    have e : ((fitPart M R j : Int) : Rat) / ((fitDen M : Int) : Rat) = Rat.divInt (fitPart M R j) (fitDen M) := (Rat.divInt_eq_div _ _).symm
    rw [e]
    exact ratS_divInt _ hpos (wlen_le2 (by omega)) (wlen_le2 (by omega))
  · have hb2 := hE.den
    have h5 : lcdQ v j ∣ fitDen M := lcdQ_dvd v fun i hi => ⟨fitPart M R i, hvD i (by omega)⟩
    have h6 := Int.le_of_dvd hpos h5
    have h7 := lcdQ_pos v j
    exact wlen_le2 (by omega)

end Go.Proofs.Ytgjhikjnlcbmkaa
