/- Which fits are accepted: plain (chapter 6). -/
import Derived.Test.YtgjhikjnlcbmkaaSe
import Derived.Test.YtgjhikjnlcbmkaaW5
set_option linter.unusedVariables false
set_option linter.unusedSimpArgs false
namespace Go.Proofs.Ytgjhikjnlcbmkaa
open Go.RowKit
set_option maxRecDepth 20000

def fstI (p : Nat → Bool) : Nat → Nat → Nat
  | a, 0 => a
  | a, f + 1 => bif p a then a else fstI p (a + 1) f
theorem fstI_at (p : Nat → Bool) {a : Nat} (h : a < 4) : fstI p a (4 - a) = bif p a then a else fstI p (a + 1) (4 - (a + 1)) := by
  obtain ⟨f, hf⟩ : ∃ f, 4 - a = f + 1 := ⟨3 - a, by omega⟩
  rw [hf, show 4 - (a + 1) = f by omega]
  rfl
theorem fstI_rng (p : Nat → Bool) : ∀ f a, a ≤ fstI p a f ∧ fstI p a f ≤ a + f ∧ (∀ i, a ≤ i → i < fstI p a f → p i = false) ∧ (fstI p a f < a + f → p (fstI p a f) = true)
  | 0, a => ⟨Nat.le_refl _, Nat.le_refl _, fun i h1 h2 => absurd h2 (by show ¬ i < a; omega), fun h => absurd h (by show ¬ a < a + 0; omega)⟩
  | f + 1, a => by
    unfold fstI
    cases h : p a
    · obtain ⟨h1, h2, h3, h4⟩ := fstI_rng p f (a + 1)
      simp only [cond_false]
      refine ⟨by omega, by omega, fun i g1 g2 => ?_, fun g => h4 (by omega)⟩
      by_cases e : i = a
      · rw [e]; exact h
      · exact h3 i (by omega) g2
    · simp only [cond_true]
      exact ⟨Nat.le_refl _, by omega, fun i g1 g2 => by omega, fun _ => h⟩
theorem fstI_all {p : Nat → Bool} (h : ¬ fstI p 0 4 < 4) {i : Nat} (hi : i < 4) : p i = false := by
  obtain ⟨_, h2, h3, _⟩ := fstI_rng p 4 0
  exact h3 i (Nat.zero_le _) (by omega)
theorem fstI_none {p : Nat → Bool} (h : ∀ i, i < 4 → p i = false) : fstI p 0 4 = 4 := by
  obtain ⟨_, h2, h3, h4⟩ := fstI_rng p 4 0
  by_cases e : fstI p 0 4 < 4
  · have := h4 (by omega)
    rw [h _ e] at this; cases this
  · omega
def rsP (W : Nat → Nat → Int) (xs : List Int) (D : Int) (F : Nat → Int) (k : Nat) : Nat → Int
  | 0 => D * nth xs k
  | j + 1 => rsP W xs D F k j - F j * W k j
def lfS (W : Nat → Nat → Int) (xs : List Int) (D : Int) (F : Nat → Int) (i K : Nat) : Int := sumTo (fun k => W k i * rsP W xs D F k 4) K
def gcF (D : Int) (F : Nat → Int) : Nat → Int
  | 0 => D
  | j + 1 => (Int.gcd (gcF D F j) (F j) : Int)
def badF (F : Nat → Int) (c : Nat) : Bool := !inR (F c) (-1000000000000000) 1000000000000000
def okD (D : Int) : Bool := inR D 1 10000000000
def nzF (W : Nat → Nat → Int) (xs : List Int) (K : Nat) (D : Int) (F : Nat → Int) (i : Nat) : Bool := decide (lfS W xs D F i K ≠ 0)
def fitC (W : Nat → Nat → Int) (xs : List Int) (K : Nat) (D : Int) (F : Nat → Int) : Int × Int :=
  bif okD D then
    if fstI (badF F) 0 4 < 4 then ((fstI (badF F) 0 4 : Nat), 2)
    else if gcF D F 4 = 1 then
      if fstI (nzF W xs K D F) 0 4 < 4 then ((fstI (nzF W xs K D F) 0 4 : Nat), 19) else (0, 0)
    else (0, 3)
  else (0, 2)
section
variable {W : Nat → Nat → Int} {xs : List Int} {K : Nat} {D : Int} {F : Nat → Int}
theorem fitC_1 (h : okD D = false) : fitC W xs K D F = (0, 2) := by unfold fitC; rw [h]; rfl
theorem fitC_2 (h : okD D = true) {j : Nat} (hj : j = fstI (badF F) 0 4) (h4 : j < 4) : fitC W xs K D F = ((j : Int), 2) := by unfold fitC; rw [h, ← hj, cond_true, if_pos h4]
theorem fitC_3 (h : okD D = true) (hb : ¬ fstI (badF F) 0 4 < 4) (hg : gcF D F 4 ≠ 1) : fitC W xs K D F = (0, 3) := by unfold fitC; rw [h, cond_true, if_neg hb, if_neg hg]
theorem fitC_4 (h : okD D = true) (hb : ¬ fstI (badF F) 0 4 < 4) (hg : gcF D F 4 = 1) {i : Nat} (hi : i = fstI (nzF W xs K D F) 0 4) (h4 : i < 4) : fitC W xs K D F = ((i : Int), 19) := by unfold fitC; rw [h, cond_true, if_neg hb, if_pos hg, ← hi, if_pos h4]
theorem fitC_5 (h : okD D = true) (hb : ¬ fstI (badF F) 0 4 < 4) (hg : gcF D F 4 = 1) (hi : ¬ fstI (nzF W xs K D F) 0 4 < 4) : fitC W xs K D F = (0, 0) := by unfold fitC; rw [h, cond_true, if_neg hb, if_pos hg, if_neg hi]
theorem rsP_bnd {k : Nat} (hD : D.natAbs ≤ 10000000000) (hx : (nth xs k).natAbs ≤ 1000000) (hF : ∀ c, c < 4 → (F c).natAbs ≤ 1000000000000000) (hW : ∀ k i, (W k i).natAbs ≤ 1) : ∀ j, j ≤ 4 → (rsP W xs D F k j).natAbs ≤ 10000000000000000 + j * 1000000000000000
  | 0, _ => by
    unfold rsP
    rw [Int.natAbs_mul]
    have : D.natAbs * (nth xs k).natAbs ≤ 10000000000 * 1000000 := Nat.mul_le_mul hD hx
    omega
  | j + 1, h => by
    have h1 := rsP_bnd hD hx hF hW j (by omega)
    have h2 : (F j * W k j).natAbs ≤ 1000000000000000 := by
      rw [Int.mul_comm]; exact mul_one_bnd (hW k j) (hF j (by omega))
    unfold rsP
    omega
theorem lfS_bnd (hD : D.natAbs ≤ 10000000000) (hx : ∀ k, (nth xs k).natAbs ≤ 1000000) (hF : ∀ c, c < 4 → (F c).natAbs ≤ 1000000000000000) (hW : ∀ k i, (W k i).natAbs ≤ 1) (i K : Nat) : (lfS W xs D F i K).natAbs ≤ K * 14000000000000000 :=
  sumTo_bnd (fun k => mul_one_bnd (hW k i) (by have := rsP_bnd (k := k) hD (hx k) hF hW 4 (Nat.le_refl _); omega)) K
theorem gcF_bnd (hD : okD D = true) (hF : ∀ c, c < 4 → badF F c = false) : ∀ j, j ≤ 4 → 0 < gcF D F j ∧ gcF D F j ≤ 10000000000
  | 0, _ => by
    have := inR_true.1 hD
    show 0 < D ∧ D ≤ 10000000000
    omega
  | j + 1, h => by
    obtain ⟨h1, h2⟩ := gcF_bnd hD hF j (by omega)
    show 0 < ((Int.gcd (gcF D F j) (F j) : Nat) : Int) ∧ ((Int.gcd (gcF D F j) (F j) : Nat) : Int) ≤ 10000000000
    have h3 := Int.gcd_pos_of_ne_zero_left (F j) (a := gcF D F j) (by omega)
    have h4 := Int.gcd_le_natAbs_left (F j) (a := gcF D F j) (by omega)
    omega
theorem gcF_part (hD : okD D = true) {j : Nat} (hF : ∀ c, c < j → badF F c = false) {i : Nat} (hi : i ≤ j) : 0 < gcF D F i ∧ gcF D F i ≤ 10000000000 := by
  have hb := inR_true.1 hD
  induction i with
  | zero => show 0 < D ∧ D ≤ 10000000000; omega
  | succ i ih =>
    obtain ⟨h1, h2⟩ := ih (by omega)
    show 0 < ((Int.gcd (gcF D F i) (F i) : Nat) : Int) ∧ ((Int.gcd (gcF D F i) (F i) : Nat) : Int) ≤ 10000000000
    have h3 := Int.gcd_pos_of_ne_zero_left (F i) (a := gcF D F i) (by omega)
    have h4 := Int.gcd_le_natAbs_left (F i) (a := gcF D F i) (by omega)
    omega
theorem badF_ok {c : Nat} (h : badF F c = false) : (F c).natAbs ≤ 1000000000000000 := by
  unfold badF at h
  have h : inR (F c) (-1000000000000000) 1000000000000000 = true := by simpa using h
  have := inR_true.1 h
  omega
theorem idxF_fst (l : Nat → Int) : idxF (fun n => decide (n ≠ 0)) [l 0, l 1, l 2, l 3] 0 = if fstI (fun i => decide (l i ≠ 0)) 0 4 < 4 then ((fstI (fun i => decide (l i ≠ 0)) 0 4 : Nat) : Int) else -1 := by
  unfold fstI fstI fstI fstI fstI idxF idxF idxF idxF idxF
  cases decide (l 0 ≠ 0)
  · cases decide (l 1 ≠ 0)
    · cases decide (l 2 ≠ 0)
      · cases decide (l 3 ≠ 0)
        · rfl
        · rfl
      · rfl
    · rfl
  · rfl
end

end Go.Proofs.Ytgjhikjnlcbmkaa
