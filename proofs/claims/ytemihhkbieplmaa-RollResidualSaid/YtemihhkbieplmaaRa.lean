/- A bounded residual (the plain law of RollResidual). -/
import Derived.Test.YtemihhkbieplmaaFb
set_option linter.unusedVariables false
set_option linter.unusedSimpArgs false
namespace Go.Proofs.Ytemihhkbieplmaa
open Go.RowKit
set_option maxRecDepth 20000

theorem qtr_shift {m O t : Nat} (hm : 0 < m) (k : Nat) : qtr ((4 * m : Nat) : Int) (O : Nat) ((k + t * (4 * m) : Nat) : Int) = qtr ((4 * m : Nat) : Int) (O : Nat) (k : Nat) := by
  rw [qtr_nat hm, qtr_nat hm, show k + t * (4 * m) + O = (k + O) + t * (4 * m) by omega, Nat.add_mul_mod_self_right]
theorem sq_shift {m O t : Nat} (hm : 0 < m) (q : Int) : ∀ (l : List Int) (k : Nat), sq ((4 * m : Nat) : Int) (O : Nat) q l ((k + t * (4 * m) : Nat) : Int) = sq ((4 * m : Nat) : Int) (O : Nat) q l (k : Nat)
  | [], _ => rfl
  | x :: l, k => by
    unfold sq
    rw [qtr_shift hm]
    have h := sq_shift (O := O) (t := t) hm q l (k + 1)
    rw [show ((k + t * (4 * m) : Nat) : Int) + 1 = ((k + 1 + t * (4 * m) : Nat) : Int) by omega, h]
    rfl
/-- The sum over one quarter is at most as great as the number of its samples times their greatest size. -/
theorem sq_le {m O q : Nat} (hm : 0 < m) (hq : q < 4) (f : Nat → Int) (B : Int) : ∀ n, (∀ k, k < n → -B ≤ f k ∧ f k ≤ B) →
    -(B * ((cumQ m q (n + O) : Nat) - (cumQ m q O : Nat) : Int)) ≤ sq ((4 * m : Nat) : Int) (O : Nat) (q : Nat) (lst f n) 0 ∧ sq ((4 * m : Nat) : Int) (O : Nat) (q : Nat) (lst f n) 0 ≤ B * ((cumQ m q (n + O) : Nat) - (cumQ m q O : Nat) : Int)
  | 0, _ => by
    rw [Nat.zero_add, Int.sub_self, Int.mul_zero]; exact ⟨Int.le_refl _, Int.le_refl _⟩
  | n + 1, h => by
    have h1 := sq_le (O := O) hm hq f B n fun k hk => h k (by omega)
    have h2 := h n (by omega)
    rw [lst_succ, sq_snoc, lst_length, Int.zero_add]
    have hs := cumQ_succ hm hq (n + O)
    rw [show n + 1 + O = n + O + 1 by omega, hs]
    by_cases hqk : qtr ((4 * m : Nat) : Int) (O : Nat) (n : Nat) = (q : Nat)
    · rw [if_pos hqk]
      rw [qtr_nat hm] at hqk
      rw [if_pos (Int.ofNat.inj hqk)]
      rw [show (((cumQ m q (n + O) + 1 : Nat) : Int) - (cumQ m q O : Nat)) = ((cumQ m q (n + O) : Nat) - (cumQ m q O : Nat) : Int) + 1 by omega, Int.mul_add, Int.mul_one]
      omega
    · rw [if_neg hqk]
      rw [qtr_nat hm] at hqk
      rw [if_neg (fun e => hqk (congrArg Int.ofNat e)), Int.add_zero, Nat.add_zero]
      exact h1
theorem rsum_le {m O q : Nat} (hm : 0 < m) (hq : q < 4) (l : List Int) (B : Int) (hB : Bnd B l) :
    -(B * ((l.length / (4 * m) * m : Nat) : Int)) ≤ rsum ((4 * m : Nat) : Int) (O : Nat) l 0 (q : Nat) ∧ rsum ((4 * m : Nat) : Int) (O : Nat) l 0 (q : Nat) ≤ B * ((l.length / (4 * m) * m : Nat) : Int) := by
  have hc : cnt l.length ((4 * m : Nat) : Int) = l.length / (4 * m) * (4 * m) := by unfold cnt; rw [Int.toNat_natCast]
  have hle : l.length / (4 * m) * (4 * m) ≤ l.length := Nat.div_mul_le_self _ _
  have h := sq_le (O := O) hm hq (nth l) B (l.length / (4 * m) * (4 * m)) fun k hk => nth_bnd hB (by omega)
  unfold rsum
  rw [hc]
  have e : lst (nth l) (l.length / (4 * m) * (4 * m)) = l.take (l.length / (4 * m) * (4 * m)) := by
    rw [← lst_take (nth l) hle, lst_of]
  rw [e] at h
  have e2 : ((cumQ m q (l.length / (4 * m) * (4 * m) + O) : Nat) : Int) - (cumQ m q O : Nat) = ((l.length / (4 * m) * m : Nat) : Int) := by
    rw [Nat.add_comm, cumQ_turn hm]; omega
  rw [e2] at h
  exact h
/-- The nearest amplitude is not greater than the greatest sample. -/
theorem near_le {m O : Nat} (hm : 0 < m) (l : List Int) (B : Int) (h0 : 0 ≤ B) (hB : Bnd B l) (hl : 4 * m ≤ l.length) :
    (-B ≤ nearRe ((4 * m : Nat) : Int) (O : Nat) l 0 ∧ nearRe ((4 * m : Nat) : Int) (O : Nat) l 0 ≤ B) ∧ (-B ≤ nearIm ((4 * m : Nat) : Int) (O : Nat) l 0 ∧ nearIm ((4 * m : Nat) : Int) (O : Nat) l 0 ≤ B) := by
  have key (q : Nat) (hq : q < 4) := rsum_le (O := O) hm hq l B hB
  have k0 := key 0 (by omega)
  have k1 := key 1 (by omega)
  have k2 := key 2 (by omega)
  have k3 := key 3 (by omega)
  have hcp := cnt_pos (n := l.length) (p := ((4 * m : Nat) : Int)) (by omega) (by omega)
  have hc := cnt_four l.length m
  have hT : B * ((cnt l.length ((4 * m : Nat) : Int) : Nat) : Int) = 4 * (B * ((l.length / (4 * m) * m : Nat) : Int)) := by rw [hc, four_mul]
  have n1 := near_bnd2 (n := 2 * (rsum ((4 * m : Nat) : Int) (O : Nat) l 0 0 - rsum ((4 * m : Nat) : Int) (O : Nat) l 0 2)) (b := (cnt l.length ((4 * m : Nat) : Int) : Nat)) (M := B) (by omega) h0 (by
    have a1 := k0.1; have a2 := k2.2
    rw [hT]
    show -(4 * (B * ((l.length / (4 * m) * m : Nat) : Int))) ≤ 2 * (rsum ((4 * m : Nat) : Int) (O : Nat) l 0 ((0 : Nat) : Int) - rsum ((4 * m : Nat) : Int) (O : Nat) l 0 ((2 : Nat) : Int))
    omega) (by
    have a1 := k0.2; have a2 := k2.1
    rw [hT]
    show 2 * (rsum ((4 * m : Nat) : Int) (O : Nat) l 0 ((0 : Nat) : Int) - rsum ((4 * m : Nat) : Int) (O : Nat) l 0 ((2 : Nat) : Int)) ≤ 4 * (B * ((l.length / (4 * m) * m : Nat) : Int))
    omega)
  have n2 := near_bnd2 (n := 2 * (rsum ((4 * m : Nat) : Int) (O : Nat) l 0 3 - rsum ((4 * m : Nat) : Int) (O : Nat) l 0 1)) (b := (cnt l.length ((4 * m : Nat) : Int) : Nat)) (M := B) (by omega) h0 (by
    have a1 := k3.1; have a2 := k1.2
    rw [hT]
    show -(4 * (B * ((l.length / (4 * m) * m : Nat) : Int))) ≤ 2 * (rsum ((4 * m : Nat) : Int) (O : Nat) l 0 ((3 : Nat) : Int) - rsum ((4 * m : Nat) : Int) (O : Nat) l 0 ((1 : Nat) : Int))
    omega) (by
    have a1 := k3.2; have a2 := k1.1
    rw [hT]
    show 2 * (rsum ((4 * m : Nat) : Int) (O : Nat) l 0 ((3 : Nat) : Int) - rsum ((4 * m : Nat) : Int) (O : Nat) l 0 ((1 : Nat) : Int)) ≤ 4 * (B * ((l.length / (4 * m) * m : Nat) : Int))
    omega)
  unfold nearRe nearIm
  omega
/-- Rounding to the nearest is wrong by at most a half. -/
theorem near_half {n b : Int} (hb : 0 < b) : -b ≤ 2 * (n - near n b * b) ∧ 2 * (n - near n b * b) ≤ b := by
  have key : ∀ n : Int, 0 ≤ n → -b ≤ 2 * (n - (2 * n + b - 1) / (2 * b) * b) ∧ 2 * (n - (2 * n + b - 1) / (2 * b) * b) ≤ b := fun n hn => by
    have h1 := Int.mul_ediv_add_emod (2 * n + b - 1) (2 * b)
    have h2 := Int.emod_nonneg (2 * n + b - 1) (show 2 * b ≠ 0 by omega)
    have h3 := Int.emod_lt_of_pos (2 * n + b - 1) (show 0 < 2 * b by omega)
    generalize (2 * n + b - 1) / (2 * b) = q at *
    generalize (2 * n + b - 1) % (2 * b) = r at *
    rw [show 2 * b * q = 2 * (q * b) by rw [Int.mul_assoc, Int.mul_comm b q]] at h1
    generalize q * b = z at *
    omega
  unfold near
  split
  · have := key (-n) (by omega)
    rw [Int.neg_mul]
    omega
  · exact key n (by omega)
theorem near_exact {g b : Int} (hb : 0 < b) : near (g * b) b = g := by
  have key : ∀ g : Int, 0 ≤ g → (2 * (g * b) + b - 1) / (2 * b) = g := fun g _ => by
    rw [show 2 * (g * b) + b - 1 = (b - 1) + g * (2 * b) by rw [Int.mul_left_comm]; omega, Int.add_mul_ediv_right _ _ (by omega), Int.ediv_eq_zero_of_lt (by omega) (by omega), Int.zero_add]
  unfold near
  split
  · rename_i h
    have hg : g < 0 := by
      rcases Int.lt_or_le g 0 with h1 | h1
      · exact h1
      · have := Int.mul_nonneg h1 (Int.le_of_lt hb); omega
    rw [← Int.neg_mul, key (-g) (by omega), Int.neg_neg]
  · rename_i h
    have hg : 0 ≤ g := by
      rcases Int.lt_or_le g 0 with h1 | h1
      · have := Int.mul_neg_of_neg_of_pos h1 hb; omega
      · exact h1
    exact key g hg
theorem sq_sub {p o q : Int} (f g : Nat → Int) : ∀ n, sq p o q (lst (fun k => f k - g k) n) 0 = sq p o q (lst f n) 0 - sq p o q (lst g n) 0
  | 0 => rfl
  | n + 1 => by
    rw [lst_succ, lst_succ, lst_succ, sq_snoc, sq_snoc, sq_snoc, sq_sub f g n, lst_length, lst_length, lst_length]
    split <;> omega
theorem rsum_sub {p o q : Int} (f g : Nat → Int) (n : Nat) : rsum p o (lst (fun k => f k - g k) n) 0 q = rsum p o (lst f n) 0 q - rsum p o (lst g n) 0 q := by
  have hle : cnt n p ≤ n := Nat.div_mul_le_self _ _
  unfold rsum
  rw [lst_length, lst_length, lst_length, lst_take _ hle, lst_take _ hle, lst_take _ hle, sq_sub]
/-- What is left when the nearest amplitude is cancelled. -/
theorem left_half {m O : Nat} (hm : 0 < m) (xs : List Int) (hl : 4 * m ≤ xs.length) (L : List Int) (hL : L = lst (canc xs ((4 * m : Nat) : Int) (O : Nat) (nearRe ((4 * m : Nat) : Int) (O : Nat) xs 0) (nearIm ((4 * m : Nat) : Int) (O : Nat) xs 0)) xs.length) :
    (-(cnt L.length ((4 * m : Nat) : Int) : Nat) ≤ 2 * (2 * reOf ((4 * m : Nat) : Int) (O : Nat) L) ∧ 2 * (2 * reOf ((4 * m : Nat) : Int) (O : Nat) L) ≤ (cnt L.length ((4 * m : Nat) : Int) : Nat)) ∧ (-(cnt L.length ((4 * m : Nat) : Int) : Nat) ≤ 2 * (2 * imOf ((4 * m : Nat) : Int) (O : Nat) L) ∧ 2 * (2 * imOf ((4 * m : Nat) : Int) (O : Nat) L) ≤ (cnt L.length ((4 * m : Nat) : Int) : Nat)) := by
  have hLl : L.length = xs.length := by rw [hL, lst_length]
  have fa := found_amp (O := O) (n := xs.length) (re := nearRe ((4 * m : Nat) : Int) (O : Nat) xs 0) (im := nearIm ((4 * m : Nat) : Int) (O : Nat) xs 0) hm (fun k => wave ((4 * m : Nat) : Int) (O : Nat) (nearRe ((4 * m : Nat) : Int) (O : Nat) xs 0) (nearIm ((4 * m : Nat) : Int) (O : Nat) xs 0) (k : Nat)) fun _ _ => rfl
  have hs (q : Int) : rsum ((4 * m : Nat) : Int) (O : Nat) L 0 q = rsum ((4 * m : Nat) : Int) (O : Nat) xs 0 q - rsum ((4 * m : Nat) : Int) (O : Nat) (lst (fun k => wave ((4 * m : Nat) : Int) (O : Nat) (nearRe ((4 * m : Nat) : Int) (O : Nat) xs 0) (nearIm ((4 * m : Nat) : Int) (O : Nat) xs 0) (k : Nat)) xs.length) 0 q := by
    have h := rsum_sub (p := ((4 * m : Nat) : Int)) (o := (O : Nat)) (q := q) (nth xs) (fun k => wave ((4 * m : Nat) : Int) (O : Nat) (nearRe ((4 * m : Nat) : Int) (O : Nat) xs 0) (nearIm ((4 * m : Nat) : Int) (O : Nat) xs 0) (k : Nat)) xs.length
    rw [lst_of] at h
    rw [hL]; exact h
  have hcp := cnt_pos (n := xs.length) (p := ((4 * m : Nat) : Int)) (by omega) (by omega)
  have h1 := near_half (n := 2 * (rsum ((4 * m : Nat) : Int) (O : Nat) xs 0 0 - rsum ((4 * m : Nat) : Int) (O : Nat) xs 0 2)) (b := (cnt xs.length ((4 * m : Nat) : Int) : Nat)) (by omega)
  have h2 := near_half (n := 2 * (rsum ((4 * m : Nat) : Int) (O : Nat) xs 0 3 - rsum ((4 * m : Nat) : Int) (O : Nat) xs 0 1)) (b := (cnt xs.length ((4 * m : Nat) : Int) : Nat)) (by omega)
  have h1' : -((cnt xs.length ((4 * m : Nat) : Int) : Nat) : Int) ≤ 2 * (2 * (rsum ((4 * m : Nat) : Int) (O : Nat) xs 0 0 - rsum ((4 * m : Nat) : Int) (O : Nat) xs 0 2) - nearRe ((4 * m : Nat) : Int) (O : Nat) xs 0 * (cnt xs.length ((4 * m : Nat) : Int) : Nat)) ∧ 2 * (2 * (rsum ((4 * m : Nat) : Int) (O : Nat) xs 0 0 - rsum ((4 * m : Nat) : Int) (O : Nat) xs 0 2) - nearRe ((4 * m : Nat) : Int) (O : Nat) xs 0 * (cnt xs.length ((4 * m : Nat) : Int) : Nat)) ≤ (cnt xs.length ((4 * m : Nat) : Int) : Nat) := h1
  have h2' : -((cnt xs.length ((4 * m : Nat) : Int) : Nat) : Int) ≤ 2 * (2 * (rsum ((4 * m : Nat) : Int) (O : Nat) xs 0 3 - rsum ((4 * m : Nat) : Int) (O : Nat) xs 0 1) - nearIm ((4 * m : Nat) : Int) (O : Nat) xs 0 * (cnt xs.length ((4 * m : Nat) : Int) : Nat)) ∧ 2 * (2 * (rsum ((4 * m : Nat) : Int) (O : Nat) xs 0 3 - rsum ((4 * m : Nat) : Int) (O : Nat) xs 0 1) - nearIm ((4 * m : Nat) : Int) (O : Nat) xs 0 * (cnt xs.length ((4 * m : Nat) : Int) : Nat)) ≤ (cnt xs.length ((4 * m : Nat) : Int) : Nat) := h2
  clear h1 h2
  rw [hLl]
  unfold reOf imOf at *
  rw [hs 0, hs 1, hs 2, hs 3]
  rw [← fa.1] at h1'
  rw [← fa.2] at h2'
  omega
/-- In lowest terms. -/
theorem low_half {n b : Int} (hb : 0 < b) (h1 : -b ≤ 2 * n) (h2 : 2 * n ≤ b) : -(low n b).2 ≤ 2 * (low n b).1 ∧ 2 * (low n b).1 ≤ (low n b).2 ∧ 0 < (low n b).2 ∧ (low n b).2 ≤ b := by
  have hg0 : 0 < ((Int.gcd n b : Nat) : Int) := by
    have : 0 < Int.gcd n b := Int.gcd_pos_of_ne_zero_right _ (by omega)
    omega
  have d1 : ((Int.gcd n b : Nat) : Int) * n.tdiv (Int.gcd n b) = n := Int.mul_tdiv_cancel' (Int.gcd_dvd_left _ _)
  have d2 : ((Int.gcd n b : Nat) : Int) * (b / (Int.gcd n b)) = b := Int.mul_ediv_cancel' (Int.gcd_dvd_right _ _)
  unfold low
  simp only []
  generalize ((Int.gcd n b : Nat) : Int) = g at *
  generalize n.tdiv g = x at *
  generalize b / g = y at *
  have hy : 0 < y := by
    rcases Int.lt_or_le 0 y with h | h
    · exact h
    · have := Int.mul_nonpos_of_nonneg_of_nonpos (Int.le_of_lt hg0) h; omega
  refine ⟨?_, ?_, hy, ?_⟩
  · rcases Int.lt_or_le (2 * x) (-y) with h | h
    · have := Int.mul_lt_mul_of_pos_left h hg0
      rw [Int.mul_left_comm, d1, Int.mul_neg, d2] at this; omega
    · exact h
  · rcases Int.lt_or_le y (2 * x) with h | h
    · have := Int.mul_lt_mul_of_pos_left h hg0
      rw [Int.mul_left_comm, d1, d2] at this; omega
    · exact h
  · have := Int.mul_le_mul_of_nonneg_right (show 1 ≤ g by omega) (Int.le_of_lt hy)
    omega
end Go.Proofs.Ytemihhkbieplmaa
