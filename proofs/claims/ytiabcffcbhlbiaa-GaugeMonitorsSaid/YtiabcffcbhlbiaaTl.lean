/- Monitors that rest. Nothing of the program. -/
import Derived.Test.YtiabcffcbhlbiaaUo
set_option linter.unusedVariables false
set_option linter.unusedSimpArgs false
namespace Go.Proofs.Ytiabcffcbhlbiaa
open Go.RowKit
set_option maxRecDepth 20000

theorem o_zero {m : Mon} (hn : m.num = 0) (D : Int) (t : Nat) : m.o D t = D := by
  show D + m.cor (fun _ => D) t = D
  rw [Mon.cor_zero hn]; omega
theorem rest_zero {m : Mon} (hn : m.num = 0) {D : Int} (hD : -10000 ≤ D ∧ D ≤ 10000) : m.restR D = (0, 0) := by
  have hb : bigO (m.o D) 501 = false := bigO_false.2 fun t _ => by rw [o_zero hn]; omega
  have hr : m.rest D = some 0 := m.rest_of (Nat.zero_le _) (fun j _ => by rw [o_zero hn, o_zero hn]) (.inl rfl)
  unfold Mon.restR
  rw [hb, hr]; rfl
/-- What is known of a tick from which on a monitor rests. -/
structure RestF (m : Mon) (D : Int) (r : Nat) : Prop where
  le : r ≤ 500
  st : ∀ j, m.o D (r + j) = m.o D r
  cr : m.cr (m.o D r) = 0
  mn : r = 0 ∨ m.o D (r - 1) ≠ m.o D r
  sm : ∀ t, t < 501 → -100000 ≤ m.o D t ∧ m.o D t ≤ 100000
theorem restR_cases (m : Mon) (D : Int) : (∃ r : Nat, m.restR D = ((r : Int), 0) ∧ RestF m D r) ∨ m.restR D = (0, 21) ∨ m.restR D = (0, 22) := by
  unfold Mon.restR
  cases hb : bigO (m.o D) 501
  · cases hr : m.rest D with
    | none => exact .inr (.inl rfl)
    | some r =>
      obtain ⟨h1, h2, h3, h4⟩ := m.rest_some hr
      exact .inl ⟨r, rfl, ⟨h1, h2, h3, h4, bigO_false.1 hb⟩⟩
  · exact .inr (.inr rfl)
theorem cr_zero {m : Mon} (hm : MonOk m) {y : Int} (h : m.cr y = 0) : (y.natAbs : Int) ≤ m.band ∨ m.num * (y.natAbs : Int) < m.den := by
  by_cases hb : (y.natAbs : Int) > m.band
  · refine .inr ?_
    unfold Mon.cr at h
    rw [decide_eq_true hb] at h
    have h : (m.num * y).tdiv m.den = 0 := h
    have h1 := Int.natAbs_tdiv (m.num * y) m.den
    rw [h] at h1
    have hd := hm.e
    have hn := hm.n
    have h2 : (m.num * y).natAbs / m.den.natAbs = 0 := h1.symm
    have h3 : (m.num * y).natAbs < m.den.natAbs := by
      rcases Nat.div_eq_zero_iff.1 h2 with h4 | h4
      · omega
      · exact h4
    have h5 : ((m.num * y).natAbs : Int) = m.num * (y.natAbs : Int) := by
      rw [Int.natAbs_mul, Int.natCast_mul]
      congr 1
      omega
    omega
  · exact .inl (by omega)
theorem out_const (m : Mon) (D : Int) {n t : Nat} (ht : t < n) : m.out (nth (lst (fun _ => D) n)) t = m.o D t := by
  have h := m.st_congr (f := nth (lst (fun _ => D) n)) (g := fun _ => D) t (fun j hj => lst_nth _ (by omega))
  show nth (lst (fun _ => D) n) t + (m.st (nth (lst (fun _ => D) n)) t).2 = D + (m.st (fun _ => D) t).2
  rw [h, lst_nth _ ht]

end Go.Proofs.Ytiabcffcbhlbiaa
