/- The phases of marks, as bounds. Nothing of the program. -/
import Derived.Test.YtemihhkbieplmaaBz
set_option linter.unusedVariables false
set_option linter.unusedSimpArgs false
namespace Go.Proofs.Ytemihhkbieplmaa
open Go.RowKit
set_option maxRecDepth 20000

/-- A mark's distance from the first one. -/
def phV (t r a v : Int) : Int := if 2 * t < (v - a) % r then (v - a) % r - r else (v - a) % r
theorem lo_iff {xs : List Int} {t r a f : Int} : ∀ (l : List Int) (p : Int × Int), (l.foldl (phStep xs t r a) p).1 ≤ f ↔ p.1 ≤ f ∧ ∀ i ∈ l, phV t r a (nth xs i.toNat) - t ≤ f
  | [], p => by simp
  | i :: l, p => by
    rw [List.foldl_cons, lo_iff l, phStep_eq, List.forall_mem_cons]
    show max p.1 (phV t r a (nth xs i.toNat) - t) ≤ f ∧ _ ↔ _
    constructor
    · rintro ⟨h1, h2⟩; exact ⟨by omega, by omega, h2⟩
    · rintro ⟨h1, h2, h3⟩; exact ⟨by omega, h3⟩
theorem hi_iff {xs : List Int} {t r a f : Int} : ∀ (l : List Int) (p : Int × Int), f ≤ (l.foldl (phStep xs t r a) p).2 ↔ f ≤ p.2 ∧ ∀ i ∈ l, f ≤ phV t r a (nth xs i.toNat) + t
  | [], p => by simp
  | i :: l, p => by
    rw [List.foldl_cons, hi_iff l, phStep_eq, List.forall_mem_cons]
    show f ≤ min p.2 (phV t r a (nth xs i.toNat) + t) ∧ _ ↔ _
    constructor
    · rintro ⟨h1, h2⟩; exact ⟨by omega, by omega, h2⟩
    · rintro ⟨h1, h2, h3⟩; exact ⟨by omega, h3⟩
theorem allM_all {xs : List Int} {p : Int → Prop} : (∀ i ∈ allM xs, p (nth xs i.toNat)) ↔ ∀ v ∈ xs, p v := by
  constructor
  · intro h v hv
    obtain ⟨k, hk, rfl⟩ := List.mem_iff_getElem.1 hv
    have := h (k : Int) (List.mem_map.2 ⟨k, by simpa using hk, rfl⟩)
    rw [Int.toNat_natCast] at this
    unfold nth at this
    rwa [List.getD_eq_getElem?_getD, List.getElem?_eq_getElem hk] at this
  · intro h i hi
    obtain ⟨k, hk, rfl⟩ := List.mem_map.1 hi
    rw [Int.toNat_natCast]
    exact h _ (nth_mem (by simpa using hk))
theorem phA_all (xs : List Int) : phA xs (allM xs) = nth xs 0 := by
  cases xs with
  | nil => rfl
  | cons x l =>
    have h : nth (allM (x :: l)) 0 = 0 := lst_nth _ (by simp)
    unfold phA; rw [h]; rfl
theorem eLo {xs : List Int} {t r f : Int} : (phEnd xs t r (allM xs)).1 ≤ f ↔ -t ≤ f ∧ ∀ v ∈ xs, phV t r (nth xs 0) v - t ≤ f := by
  unfold phEnd phAcc
  rw [List.take_of_length_le (Nat.le_refl _), lo_iff, phA_all]
  exact and_congr Iff.rfl (allM_all (p := fun v => phV t r (nth xs 0) v - t ≤ f))
theorem eHi {xs : List Int} {t r f : Int} : f ≤ (phEnd xs t r (allM xs)).2 ↔ f ≤ t ∧ ∀ v ∈ xs, f ≤ phV t r (nth xs 0) v + t := by
  unfold phEnd phAcc
  rw [List.take_of_length_le (Nat.le_refl _), hi_iff, phA_all]
  exact and_congr Iff.rfl (allM_all (p := fun v => f ≤ phV t r (nth xs 0) v + t))

end Go.Proofs.Ytemihhkbieplmaa
