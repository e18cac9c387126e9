/- Matrices of ranges. Nothing of the program. -/
import Derived.Test.YtiabcffcbhlbiaaUs
import Derived.Test.YtiabcffcbhlbiaaUc
set_option linter.unusedVariables false
set_option linter.unusedSimpArgs false
namespace Go.Proofs.Ytiabcffcbhlbiaa
open Go.RowKit
set_option maxRecDepth 20000

abbrev Rg := Int × Int
def rngM (a b : Rg) : Rg := (min (min (min (a.1 * b.1) (a.1 * b.2)) (a.2 * b.1)) (a.2 * b.2), max (max (max (a.1 * b.1) (a.1 * b.2)) (a.2 * b.1)) (a.2 * b.2))
def sumR (f : Nat → Rg) : Nat → Rg
  | 0 => (0, 0)
  | n + 1 => ((sumR f n).1 + (f n).1, (sumR f n).2 + (f n).2)
abbrev Mx := Nat → Nat → Rg
def mulM (n : Nat) (M O : Mx) : Mx := fun i k => sumR (fun j => rngM (M i j) (O j k)) n
def unM : Mx := fun i j => bif i == j then (1, 1) else (0, 0)
/-- The matrix of a tick, times the denominator. -/
def tkM (c : List Rg) (den : Int) : Mx
  | 0, j => c.getD j rg0
  | i + 1, j => bif i == j then (den, den) else (0, 0)
def powM (c : List Rg) (den : Int) (n : Nat) : Nat → Mx
  | 0 => unM
  | s + 1 => mulM n (tkM c den) (powM c den n s)
def BndM (K : Nat) (M : Mx) : Prop := ∀ i j, (M i j).1.natAbs ≤ K ∧ (M i j).2.natAbs ≤ K
theorem mul_nat {x y : Int} {A B : Nat} (h1 : x.natAbs ≤ A) (h2 : y.natAbs ≤ B) : (x * y).natAbs ≤ A * B := by
  rw [Int.natAbs_mul]; exact Nat.mul_le_mul h1 h2
theorem rngM_bnd {a b : Rg} {A B : Nat} (a1 : a.1.natAbs ≤ A) (a2 : a.2.natAbs ≤ A) (b1 : b.1.natAbs ≤ B) (b2 : b.2.natAbs ≤ B) : (rngM a b).1.natAbs ≤ A * B ∧ (rngM a b).2.natAbs ≤ A * B := by
  have h1 := mul_nat a1 b1
  have h2 := mul_nat a1 b2
  have h3 := mul_nat a2 b1
  have h4 := mul_nat a2 b2
  unfold rngM
  simp only
  omega
theorem sumR_bnd {f : Nat → Rg} {K : Nat} : ∀ {n : Nat}, (∀ j, j < n → (f j).1.natAbs ≤ K ∧ (f j).2.natAbs ≤ K) → (sumR f n).1.natAbs ≤ n * K ∧ (sumR f n).2.natAbs ≤ n * K
  | 0, _ => ⟨Nat.zero_le _, Nat.zero_le _⟩
  | n + 1, h => by
    obtain ⟨i1, i2⟩ := sumR_bnd (n := n) fun j hj => h j (by omega)
    obtain ⟨h1, h2⟩ := h n (by omega)
    have e : (n + 1) * K = n * K + K := Nat.succ_mul n K
    show ((sumR f n).1 + (f n).1).natAbs ≤ _ ∧ ((sumR f n).2 + (f n).2).natAbs ≤ _
    omega
theorem mulM_bnd {n A B : Nat} {M O : Mx} (hM : BndM A M) (hO : BndM B O) : BndM (n * (A * B)) (mulM n M O) := fun i k =>
  sumR_bnd fun j _ => rngM_bnd (hM i j).1 (hM i j).2 (hO j k).1 (hO j k).2
theorem unM_bnd : BndM 1 unM := fun i j => by
  unfold unM
  cases i == j <;> decide
theorem BndM.mono {A B : Nat} {M : Mx} (h : BndM A M) (hAB : A ≤ B) : BndM B M := fun i j => ⟨Nat.le_trans (h i j).1 hAB, Nat.le_trans (h i j).2 hAB⟩
/-- A valid loop. -/
structure LoopOk (c : List Rg) (den : Int) : Prop where
  l1 : 1 ≤ c.length
  l3 : c.length ≤ 3
  b : ∀ r ∈ c, (-10 ≤ r.1 ∧ r.1 ≤ 10) ∧ (-10 ≤ r.2 ∧ r.2 ≤ 10) ∧ r.1 ≤ r.2
  d : 1 ≤ den ∧ den ≤ 10
theorem rg_mem {c : List Rg} {j : Nat} (h : j < c.length) : c.getD j rg0 ∈ c := by
  rw [List.getD_eq_getElem?_getD, List.getElem?_eq_getElem h]; exact List.getElem_mem h
theorem rg_out {c : List Rg} {j : Nat} (h : ¬ j < c.length) : c.getD j rg0 = rg0 := by
  rw [List.getD_eq_getElem?_getD, List.getElem?_eq_none (by omega)]; rfl
theorem tkM_bnd {c : List Rg} {den : Int} (h : LoopOk c den) : BndM 10 (tkM c den) := fun i j => by
  rcases i with _ | i
  · show (c.getD j rg0).1.natAbs ≤ 10 ∧ (c.getD j rg0).2.natAbs ≤ 10
    by_cases hj : j < c.length
    · have := h.b _ (rg_mem hj)
      omega
    · rw [rg_out hj]; decide
  · show (bif i == j then (den, den) else (0, 0)).1.natAbs ≤ 10 ∧ (bif i == j then (den, den) else (0, 0)).2.natAbs ≤ 10
    have := h.d
    cases i == j
    · exact ⟨Nat.zero_le _, Nat.zero_le _⟩
    · show den.natAbs ≤ 10 ∧ den.natAbs ≤ 10
      omega
theorem powM_bnd {c : List Rg} {den : Int} (h : LoopOk c den) : ∀ s, BndM (30 ^ s) (powM c den c.length s)
  | 0 => unM_bnd
  | s + 1 => (mulM_bnd (n := c.length) (tkM_bnd h) (powM_bnd h s)).mono (by
    have h3 := h.l3
    rw [Nat.pow_succ]
    have : c.length * (10 * 30 ^ s) ≤ 3 * (10 * 30 ^ s) := Nat.mul_le_mul_right _ h3
    omega)
theorem pow30 {s : Nat} (h : s ≤ 6) : 30 ^ s ≤ 729000000 := Nat.le_trans (Nat.pow_le_pow_right (by decide) h) (by decide)
/-- The weighted sum of the sizes in a row. -/
def rowS (M : Mx) (w : List Int) (i : Nat) : Nat → Int
  | 0 => 0
  | j + 1 => rowS M w i j + max ((M i j).1.natAbs : Int) ((M i j).2.natAbs : Int) * nth w j
theorem rowS_bnd {M : Mx} {K : Nat} (hM : BndM K M) {w : List Int} (hw : ∀ j, 0 ≤ nth w j ∧ nth w j ≤ 10) (i : Nat) : ∀ j : Nat, 0 ≤ rowS M w i j ∧ rowS M w i j ≤ (j * (K * 10) : Nat)
  | 0 => ⟨Int.le_refl _, by simp [rowS]⟩
  | j + 1 => by
    obtain ⟨h1, h2⟩ := rowS_bnd hM hw i j
    obtain ⟨m1, m2⟩ := hM i j
    obtain ⟨w1, w2⟩ := hw j
    have h3 : max ((M i j).1.natAbs : Int) ((M i j).2.natAbs : Int) * nth w j ≤ K * 10 := Int.mul_le_mul (by omega) w2 w1 (by omega)
    have h4 : 0 ≤ max ((M i j).1.natAbs : Int) ((M i j).2.natAbs : Int) * nth w j := Int.mul_nonneg (by omega) w1
    have e : (((j + 1) * (K * 10) : Nat) : Int) = (j * (K * 10) : Nat) + (K : Int) * 10 := by
      rw [Nat.succ_mul, Int.natCast_add]; congr 1
    show 0 ≤ rowS M w i j + _ ∧ rowS M w i j + _ ≤ _
    rw [e]
    omega
/-- The norm, in lowest terms. -/
def normF (M : Mx) (w : List Int) (dp : Int) (n : Nat) : Nat → Fr
  | 0 => (0, 1)
  | i + 1 => bif fLt (normF M w dp n i) (low (rowS M w i n) (nth w i * dp)) then low (rowS M w i n) (nth w i * dp) else normF M w dp n i

end Go.Proofs.Ytiabcffcbhlbiaa
