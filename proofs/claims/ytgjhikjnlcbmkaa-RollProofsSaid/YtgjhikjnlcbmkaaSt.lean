/- The fit is accepted, and what is accepted is the fit: plain (chapter 6). -/
import Derived.Test.YtgjhikjnlcbmkaaSm
import Derived.Test.YtgjhikjnlcbmkaaSp
import Derived.Test.YtgjhikjnlcbmkaaSs
set_option linter.unusedVariables false
set_option linter.unusedSimpArgs false
namespace Go.Proofs.Ytgjhikjnlcbmkaa
open Go.RowKit
set_option maxRecDepth 20000

section
variable {W : Nat → Nat → Int} {xs : List Int} {D : Int} {F : Nat → Int}
theorem lfS_eq (i : Nat) (K : Nat) : lfS W xs D F i K = D * eqR W xs K i - (eqM W K i 0 * F 0 + eqM W K i 1 * F 1 + eqM W K i 2 * F 2 + eqM W K i 3 * F 3) := by
  have h := ortho W (fun k => nth xs k) D (F 0) (F 1) (F 2) (F 3) i K
  unfold lfS
  rw [show eqR W xs K i = sumTo (fun k => W k i * nth xs k) K from rfl]
  unfold eqM
  rw [← h]
  refine sumTo_congr K fun k _ => ?_
  show W k i * (D * nth xs k - F 0 * W k 0 - F 1 * W k 1 - F 2 * W k 2 - F 3 * W k 3) = (D * nth xs k - (F 0 * W k 0 + F 1 * W k 1 + F 2 * W k 2 + F 3 * W k 3)) * W k i
  grind
end
section
variable {W : Nat → Nat → Int} {xs : List Int} {K : Nat} {M : Nat → Nat → Int} {R : Nat → Int}
theorem fit_parts (hM : M = eqM W K) (hE : EqB M R) (hz : fitDen M ≠ 0) : 0 < fitD M R ∧ fitD M R ≤ 10000000000 ∧ Int.gcd (Int.gcd (Int.gcd (Int.gcd (fitD M R) (fitQ M R 0)) (fitQ M R 1)) (fitQ M R 2)) (fitQ M R 3) = 1 := by
  have hd4 : d4 M = fitDen M := by
    unfold fitDen
    rw [det4_form]; rfl
  have hpos : 0 < fitDen M := by
    rw [← hd4] at hz ⊢
    exact (gram_minors W K M (fun i j => by rw [hM]) hz).2.2.2
  have hle : fitDen M ≤ 240 * 240 * 240 * 240 := by
    rw [← hd4] at hz ⊢
    exact gram_le W K M (fun i j => by rw [hM]) hz fun i => by have := hE.1 i i; omega
  have hG : 0 < fitG M R 4 := by
    have h4 : fitG M R 4 ∣ fitDen M := fitG_den M R 4
    have h5 : 0 ≤ fitG M R 4 := by
      show (0 : Int) ≤ ((Int.gcd (fitG M R 3) (fitPart M R 3) : Nat) : Int)
      omega
    refine Int.lt_iff_le_and_ne.2 ⟨h5, fun e => ?_⟩
    rw [← e] at h4
    exact hz (Int.zero_dvd.1 h4)
  have hd : fitG M R 4 * fitD M R = fitDen M := Int.mul_tdiv_cancel' (fitG_den M R 4)
  have hq : ∀ j, j < 4 → fitG M R 4 * fitQ M R j = fitPart M R j := fun j hj => Int.mul_tdiv_cancel' (fitG_part M R j hj)
  have hDp : 0 < fitD M R := by
    refine Int.not_le.1 fun h => ?_
    have := Int.mul_nonpos_of_nonneg_of_nonpos (Int.le_of_lt hG) h
    omega
  refine ⟨hDp, ?_, gcd_left (D := fitDen M) hG hd.symm (hq 0 (by omega)).symm (hq 1 (by omega)).symm (hq 2 (by omega)).symm (hq 3 (by omega)).symm rfl⟩
  have h1 : fitD M R ∣ fitDen M := ⟨fitG M R 4, by rw [Int.mul_comm]; exact hd.symm⟩
  have h2 := Int.le_of_dvd hpos h1
  omega
theorem fitAll_at (h : fitAll M R = true) {j : Nat} (hj : j < 4) : fitOk M R j = true := by
  cases hb : fitOk M R j
  · rw [fitAll_not hj hb] at h; cases h
  · rfl
theorem fit_accept (hM : M = eqM W xs.length) (hR : R = eqR W xs xs.length) (hE : EqB M R) (hz : fitDen M ≠ 0) (ha : fitAll M R = true) : fitC W xs xs.length (fitD M R) (fitQ M R) = (0, 0) := by
  obtain ⟨h1, h2, h3⟩ := fit_parts hM hE hz
  refine fitC_5 (inR_true.2 ⟨by omega, h2⟩) ?_ ?_ ?_
  · rw [fstI_none fun i hi => ?_]
    · omega
    · have := fitAll_at ha hi
      unfold badF
      unfold fitOk at this
      rw [this]; rfl
  · show ((Int.gcd (Int.gcd (Int.gcd (Int.gcd (fitD M R) (fitQ M R 0)) (fitQ M R 1)) (fitQ M R 2)) (fitQ M R 3) : Nat) : Int) = 1
    rw [h3]; rfl
  · rw [fstI_none fun i hi => ?_]
    · omega
    · have hn := fit_normal M R hz i hi
      unfold nzF
      rw [lfS_eq, ← hM, ← hR, hn]
      simp
theorem fit_unique {D : Int} {F : Nat → Int} (hM : M = eqM W xs.length) (hR : R = eqR W xs xs.length) (hE : EqB M R) (hz : fitDen M ≠ 0) (hc : (fitC W xs xs.length D F).2 = 0) : fitAll M R = true ∧ fitD M R = D ∧ ∀ j, j < 4 → fitQ M R j = F j := by
  have hD : okD D = true := by
    cases h : okD D
    · rw [fitC_1 h] at hc; exact absurd hc (by decide)
    · rfl
  have hb : ¬ fstI (badF F) 0 4 < 4 := fun h => by
    rw [fitC_2 hD rfl h] at hc; exact absurd (show (2 : Int) = 0 from hc) (by decide)
  have hg : gcF D F 4 = 1 := Decidable.byContradiction fun h => by
    rw [fitC_3 hD hb h] at hc; exact absurd hc (by decide)
  have hl : ¬ fstI (nzF W xs xs.length D F) 0 4 < 4 := fun h => by
    rw [fitC_4 hD hb hg rfl h] at hc; exact absurd (show (19 : Int) = 0 from hc) (by decide)
  have hDp : 0 < D := by have := inR_true.1 hD; omega
  have hl0 : ∀ i, i < 4 → M i 0 * F 0 + M i 1 * F 1 + M i 2 * F 2 + M i 3 * F 3 = D * R i := fun i hi => by
    have h := fstI_all hl hi
    unfold nzF at h
    have h : lfS W xs D F i xs.length = 0 := by simpa using h
    rw [lfS_eq, ← hM, ← hR] at h
    omega
  have hD0 : ((D : Int) : Rat) ≠ 0 := by
    have : D ≠ 0 := by omega
    exact_mod_cast this
  obtain ⟨hn, hs⟩ := fit_elim hM hE
  cases hsl : slvQ (eqQ M R) 0 4 with
  | none => exact absurd (hn hsl) hz
  | some n =>
    obtain ⟨_, _, _, v, hsv, hvv, hlc, hq, _, _⟩ := hs n hsl
    obtain ⟨k1, _, k3⟩ := slvQ_some (c := 0) rfl (dgm_zero _) hsl
    have hSol : Sol (eqQ M R) fun j => ((F j : Int) : Rat) / ((D : Int) : Rat) := fun i hi => by
      have h := hl0 i hi
      have h2 : ((M i 0 * F 0 + M i 1 * F 1 + M i 2 * F 2 + M i 3 * F 3 : Int) : Rat) = ((D * R i : Int) : Rat) := by rw [h]
      simp only [Rat.intCast_mul, Rat.intCast_add] at h2
      unfold eqQ
      simp only [show (0 : Nat) < 4 by decide, show (1 : Nat) < 4 by decide, show (2 : Nat) < 4 by decide, show (3 : Nat) < 4 by decide, show ¬ (4 : Nat) < 4 by decide, if_true, if_false]
      grind
    have hF : ∀ j, j < 4 → v j = ((F j : Int) : Rat) / ((D : Int) : Rat) := fun j hj => by
      have h1 : ((F j : Int) : Rat) / ((D : Int) : Rat) = n j 4 / n j j := dgm_sol k1 (k3 _ hSol) hj
      rw [h1]
      unfold solL at hsv
      injection hsv with e0 e
      injection e with e1 e
      injection e with e2 e
      injection e with e3 _
      have hc : j = 0 ∨ j = 1 ∨ j = 2 ∨ j = 3 := by omega
      rcases hc with rfl | rfl | rfl | rfl
      · exact e0.symm
      · exact e1.symm
      · exact e2.symm
      · exact e3.symm
    have hFD : ∀ j, j < 4 → v j * ((D : Int) : Rat) = ((F j : Int) : Rat) := fun j hj => by
      rw [hF j hj]; grind
    have hgn : Int.gcd (Int.gcd (Int.gcd (Int.gcd D (F 0)) (F 1)) (F 2)) (F 3) = 1 := by
      have : ((Int.gcd (Int.gcd (Int.gcd (Int.gcd D (F 0)) (F 1)) (F 2)) (F 3) : Nat) : Int) = 1 := hg
      exact_mod_cast this
    have hl2 := lcdQ_eq (v := v) (p := F) (D := D) (g := 1) (E := D) (q := F) hDp (by decide) (by omega) hFD (fun j _ => by omega) hgn
    have hDD : fitD M R = D := by rw [← hlc, hl2.1]
    have hQ : ∀ j, j < 4 → fitQ M R j = F j := fun j hj => by
      have h1 := hq j hj
      rw [hDD, hFD j hj] at h1
      exact_mod_cast h1.symm
    refine ⟨fitAll_of fun c hcc => ?_, hDD, hQ⟩
    have hbc := fstI_all hb hcc
    unfold fitOk
    rw [hQ c hcc]
    unfold badF at hbc
    simpa using hbc
end

end Go.Proofs.Ytgjhikjnlcbmkaa
