/- Phases: the searched ones are the intersected ones; the reference's walks of phases and missing marks. -/
import Derived.Test.YtemihhkbieplmaaBy
set_option linter.unusedVariables false
set_option linter.unusedSimpArgs false
namespace Go.Proofs.Ytemihhkbieplmaa
open Go.RowKit
set_option maxRecDepth 20000
set_option maxHeartbeats 4000000

/-- A mark's own distance from the first one. -/
def phD (xs : List Int) (t r a i : Int) : Int := if 2 * t < (nth xs i.toNat - a) % r then (nth xs i.toNat - a) % r - r else (nth xs i.toNat - a) % r
theorem expl_iff {xs : List Int} {t r a i f : Int} (ht : 0 ≤ t) (hr : 4 * t < r) (h1 : -t ≤ f) (h2 : f ≤ t) : expl xs t r (a + f) i = true ↔ phD xs t r a i - t ≤ f ∧ f ≤ phD xs t r a i + t := by
  have hr0 : 0 < r := by omega
  have d1 := Int.emod_nonneg (nth xs i.toNat - a) (show r ≠ 0 by omega)
  have d2 := Int.emod_lt_of_pos (nth xs i.toNat - a) hr0
  have d3 := Int.mul_ediv_add_emod (nth xs i.toNat - a) r
  have e : (nth xs i.toNat - (a + f)) % r = ((nth xs i.toNat - a) % r - f) % r := by
    have : nth xs i.toNat - (a + f) = ((nth xs i.toNat - a) % r - f) + r * ((nth xs i.toNat - a) / r) := by omega
    rw [this, Int.add_mul_emod_self_left]
  unfold expl phD
  rw [e]
  generalize (nth xs i.toNat - a) % r = D at *
  clear d3 e
  have hn : (D - f) % r = if D - f < 0 then D - f + r else if D - f < r then D - f else D - f - r := by
    split
    · rw [← Int.add_emod_right]; exact Int.emod_eq_of_lt (by omega) (by omega)
    · split
      · exact Int.emod_eq_of_lt (by omega) (by omega)
      · rw [← Int.sub_emod_right]; exact Int.emod_eq_of_lt (by omega) (by omega)
  rw [hn, Bool.or_eq_true, decide_eq_true_iff, decide_eq_true_iff]
  split <;> split <;> (try split) <;> omega
theorem phStep_eq (xs : List Int) (t r a : Int) (p : Int × Int) (i : Int) : phStep xs t r a p i = (max p.1 (phD xs t r a i - t), min p.2 (phD xs t r a i + t)) := rfl
theorem fold_iff {xs : List Int} {t r a f : Int} (ht : 0 ≤ t) (hr : 4 * t < r) (h1 : -t ≤ f) (h2 : f ≤ t) : ∀ (l : List Int) (p : Int × Int), ((l.foldl (phStep xs t r a) p).1 ≤ f ∧ f ≤ (l.foldl (phStep xs t r a) p).2) ↔ (p.1 ≤ f ∧ f ≤ p.2) ∧ explA xs t r (a + f) l = true
  | [], p => by simp [explA]
  | i :: l, p => by
    have he := expl_iff (xs := xs) (a := a) (i := i) ht hr h1 h2
    rw [List.foldl_cons, fold_iff ht hr h1 h2 l, phStep_eq]
    show _ ↔ _ ∧ (expl xs t r (a + f) i && explA xs t r (a + f) l) = true
    rw [Bool.and_eq_true, he]
    simp only []
    constructor
    · rintro ⟨⟨h3, h4⟩, h5⟩
      exact ⟨⟨by omega, by omega⟩, ⟨by omega, by omega⟩, h5⟩
    · rintro ⟨⟨h3, h4⟩, ⟨h5, h6⟩, h7⟩
      exact ⟨⟨by omega, by omega⟩, h7⟩
theorem explA_iff {xs : List Int} {t r f : Int} {is : List Int} (ht : 0 ≤ t) (hr : 4 * t < r) (h1 : -t ≤ f) (h2 : f ≤ t) : explA xs t r (phA xs is + f) is = true ↔ (phEnd xs t r is).1 ≤ f ∧ f ≤ (phEnd xs t r is).2 := by
  have := fold_iff (xs := xs) (a := phA xs is) ht hr h1 h2 is (-t, t)
  unfold phEnd phAcc
  rw [List.take_of_length_le (Nat.le_refl _)]
  rw [this]
  simp only []
  exact ⟨fun h => ⟨⟨h1, h2⟩, h⟩, fun h => h.2⟩

end Go.Proofs.Ytemihhkbieplmaa
