/- Fractions in lowest terms, and their spans. -/
import Derived.Test.YtiabcffcbhlbiaaPa
set_option linter.unusedVariables false
set_option linter.unusedSimpArgs false
namespace Go.Proofs.Ytiabcffcbhlbiaa
open Go.RowKit
set_option maxRecDepth 20000

abbrev Fr := Int × Int
def fLt (a b : Fr) : Bool := decide (a.1 * b.2 < b.1 * a.2)
def fLe (a b : Fr) : Prop := a.1 * b.2 ≤ b.1 * a.2
theorem fLe_refl (a : Fr) : fLe a a := Int.le_refl _
theorem fLe_trans {a b c : Fr} (ha : 0 < a.2) (hb : 0 < b.2) (hc : 0 < c.2) (h1 : fLe a b) (h2 : fLe b c) : fLe a c := by
  have h3 := Int.mul_le_mul_of_nonneg_right h1 (Int.le_of_lt hc)
  have h4 := Int.mul_le_mul_of_nonneg_right h2 (Int.le_of_lt ha)
  refine Int.le_of_mul_le_mul_right (a := b.2) ?_ hb
  have e1 : a.1 * c.2 * b.2 = a.1 * b.2 * c.2 := Int.mul_right_comm ..
  have e2 : b.1 * a.2 * c.2 = b.1 * c.2 * a.2 := Int.mul_right_comm ..
  have e3 : c.1 * b.2 * a.2 = c.1 * a.2 * b.2 := Int.mul_right_comm ..
  omega
theorem fLt_false {a b : Fr} (h : fLt a b = false) : fLe b a := by
  have := of_decide_eq_false h
  show b.1 * a.2 ≤ a.1 * b.2
  omega
theorem fLt_true {a b : Fr} (h : fLt a b = true) : fLe a b := Int.le_of_lt (of_decide_eq_true h)
theorem low_mul {n d : Int} (h : 0 < d) : 0 < (Int.gcd n d : Int) ∧ n = (Int.gcd n d : Int) * (low n d).1 ∧ d = (Int.gcd n d : Int) * (low n d).2 := by
  have hg : 0 < Int.gcd n d := Int.gcd_pos_of_ne_zero_right n (by omega)
  refine ⟨by omega, ?_, ?_⟩
  · exact (Int.mul_tdiv_cancel' (Int.gcd_dvd_left ..)).symm
  · exact (Int.mul_ediv_cancel' (Int.gcd_dvd_right ..)).symm
theorem low_size {n d : Int} (h : 0 < d) : (low n d).1.natAbs ≤ n.natAbs ∧ 0 < (low n d).2 ∧ (low n d).2 ≤ d := by
  obtain ⟨g, h1, h2⟩ := low_mul (n := n) h
  refine ⟨Int.natAbs_tdiv_le_natAbs n _, ?_, ?_⟩
  · refine Decidable.byContradiction fun hn => ?_
    have : (Int.gcd n d : Int) * (low n d).2 ≤ (Int.gcd n d : Int) * 0 := Int.mul_le_mul_of_nonneg_left (by omega) (by omega)
    omega
  · exact Int.ediv_le_self _ (Int.le_of_lt h)
theorem low_gcd {n d : Int} (h : 0 < d) : Int.gcd (low n d).1 (low n d).2 = 1 := by
  obtain ⟨h1, h2, h3⟩ := low_mul (n := n) h
  have := Int.gcd_mul_left (Int.gcd n d : Int) (low n d).1 (low n d).2
  rw [← h2, ← h3] at this
  have e : (Int.gcd n d : Int).natAbs = Int.gcd n d := by omega
  rw [e] at this
  have h4 : 0 < Int.gcd n d := by omega
  exact Nat.eq_of_mul_eq_mul_left h4 (by rw [← this, Nat.mul_one])
theorem low_fLe {n d m e : Int} (hd : 0 < d) (he : 0 < e) : fLe (low n d) (low m e) ↔ n * e ≤ m * d := by
  obtain ⟨g1, g2, g3⟩ := low_mul (n := n) hd
  obtain ⟨k1, k2, k3⟩ := low_mul (n := m) he
  unfold fLe
  generalize (low n d).1 = x at *
  generalize (low n d).2 = y at *
  generalize (low m e).1 = u at *
  generalize (low m e).2 = v at *
  generalize (Int.gcd n d : Int) = g at *
  generalize (Int.gcd m e : Int) = k at *
  subst g2 g3 k2 k3
  have e1 : g * x * (k * v) = g * k * (x * v) := by rw [Int.mul_assoc, Int.mul_assoc, Int.mul_left_comm x]
  have e2 : k * u * (g * y) = g * k * (u * y) := by rw [Int.mul_assoc, Int.mul_left_comm u, ← Int.mul_assoc k, Int.mul_comm k g]
  rw [e1, e2]
  have hgk : 0 < g * k := Int.mul_pos g1 k1
  exact ⟨fun h => Int.mul_le_mul_of_nonneg_left h (Int.le_of_lt hgk), fun h => Int.le_of_mul_le_mul_left h hgk⟩
theorem low_one (n : Int) {d : Int} (h : 0 < d) : low (n * d) d = (n, 1) := by
  have hg : (Int.gcd (n * d) d : Int) = d := by rw [Int.gcd_mul_left_left]; omega
  unfold low
  rw [hg, Int.mul_tdiv_cancel _ (by omega), Int.ediv_self (by omega)]
/-- A span, and one more fraction. -/
def spn1 (s : Fr × Fr) (x : Fr) : Fr × Fr := (bif fLt x s.1 then x else s.1, bif fLt s.2 x then x else s.2)
def hull4 (a b c d : Fr) : Fr × Fr := spn1 (spn1 (spn1 (a, a) b) c) d
theorem spn1_self (a : Fr) : spn1 (a, a) a = (a, a) := by
  have : fLt a a = false := decide_eq_false (Int.lt_irrefl _)
  unfold spn1
  simp only [this, cond_false]
theorem spn1_le (s : Fr × Fr) (x : Fr) : (fLe (spn1 s x).1 s.1 ∧ fLe (spn1 s x).1 x) ∧ fLe s.2 (spn1 s x).2 ∧ fLe x (spn1 s x).2 := by
  unfold spn1
  cases h1 : fLt x s.1 <;> cases h2 : fLt s.2 x <;> simp only [cond_true, cond_false]
  · exact ⟨⟨fLe_refl _, fLt_false h1⟩, fLe_refl _, fLt_false h2⟩
  · exact ⟨⟨fLe_refl _, fLt_false h1⟩, fLt_true h2, fLe_refl _⟩
  · exact ⟨⟨fLt_true h1, fLe_refl _⟩, fLe_refl _, fLt_false h2⟩
  · exact ⟨⟨fLt_true h1, fLe_refl _⟩, fLt_true h2, fLe_refl _⟩
theorem spn1_P {P : Fr → Prop} {s : Fr × Fr} {x : Fr} (h1 : P s.1) (h2 : P s.2) (h3 : P x) : P (spn1 s x).1 ∧ P (spn1 s x).2 := by
  unfold spn1
  constructor
  · cases fLt x s.1 <;> assumption
  · cases fLt s.2 x <;> assumption
theorem hull4_P {P : Fr → Prop} {a b c d : Fr} (h1 : P a) (h2 : P b) (h3 : P c) (h4 : P d) : P (hull4 a b c d).1 ∧ P (hull4 a b c d).2 := by
  have k1 := spn1_P (s := (a, a)) h1 h1 h2
  have k2 := spn1_P k1.1 k1.2 h3
  exact spn1_P k2.1 k2.2 h4
theorem hull4_le {a b c d : Fr} (ha : 0 < a.2) (hb : 0 < b.2) (hc : 0 < c.2) (hd : 0 < d.2) :
    (fLe (hull4 a b c d).1 a ∧ fLe (hull4 a b c d).1 b ∧ fLe (hull4 a b c d).1 c ∧ fLe (hull4 a b c d).1 d) ∧ fLe a (hull4 a b c d).2 ∧ fLe b (hull4 a b c d).2 ∧ fLe c (hull4 a b c d).2 ∧ fLe d (hull4 a b c d).2 := by
  have p1 := spn1_P (P := fun f => 0 < f.2) (s := (a, a)) ha ha hb
  have p2 := spn1_P (P := fun f => 0 < f.2) p1.1 p1.2 hc
  have p3 := spn1_P (P := fun f => 0 < f.2) p2.1 p2.2 hd
  have q1 := spn1_le (a, a) b
  have q2 := spn1_le (spn1 (a, a) b) c
  have q3 := spn1_le (spn1 (spn1 (a, a) b) c) d
  unfold hull4
  have l2 := fLe_trans p3.1 p2.1 p1.1 q3.1.1 q2.1.1
  have u2 := fLe_trans p1.2 p2.2 p3.2 q2.2.1 q3.2.1
  exact ⟨⟨fLe_trans p3.1 p1.1 ha l2 q1.1.1, fLe_trans p3.1 p1.1 hb l2 q1.1.2, fLe_trans p3.1 p2.1 hc q3.1.1 q2.1.2, q3.1.2⟩,
    fLe_trans ha p1.2 p3.2 q1.2.1 u2, fLe_trans hb p1.2 p3.2 q1.2.2 u2, fLe_trans hc p2.2 p3.2 q2.2.2 q3.2.1, q3.2.2⟩
/-! The exit thickness, and the gap for one. -/
def exF (m q g e : Int) : Fr := low (m * g + q * e) (m + q)
def gpF (m q en ex : Int) : Fr := low (ex * m - q * (en - ex)) m
theorem exF_le {m q k r g e : Int} (h1 : 0 < m + q) (h2 : 0 < k + r) (h : 0 ≤ (g - e) * (k * q - m * r)) : fLe (exF m q g e) (exF k r g e) := by
  refine (low_fLe h1 h2).2 ?_
  have : (k * g + r * e) * (m + q) - (m * g + q * e) * (k + r) = (g - e) * (k * q - m * r) := by grind
  omega
theorem gpF_le {m q k r en ex : Int} (h1 : 0 < m) (h2 : 0 < k) (h : 0 ≤ (en - ex) * (q * k - r * m)) : fLe (gpF m q en ex) (gpF k r en ex) := by
  refine (low_fLe h1 h2).2 ?_
  have : (ex * k - r * (en - ex)) * m - (ex * m - q * (en - ex)) * k = (en - ex) * (q * k - r * m) := by grind
  omega

end Go.Proofs.Ytiabcffcbhlbiaa
