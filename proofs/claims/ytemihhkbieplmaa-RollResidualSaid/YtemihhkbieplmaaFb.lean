/- The amplitudes of a wave are found again (the plain law of RollFound). -/
import Derived.Test.YtemihhkbieplmaaFa
set_option linter.unusedVariables false
set_option linter.unusedSimpArgs false
namespace Go.Proofs.Ytemihhkbieplmaa
open Go.RowKit

theorem rec_good {xs : List Int} (hB : Bnd 1000000 xs) (h1 : 0 < xs.length) (h2 : xs.length ≤ 240) : recErr xs = 0 := by
  have h3 : xs.any (fun n => !inR n (-1000000) 1000000) = false := by
    rw [List.any_eq_false]
    intro x hx
    rw [inR_true.2 (hB x hx)]; decide
  unfold recErr
  rw [decide_eq_false (by omega), decide_eq_false (by omega), h3]; rfl
theorem qtr_half {m O k : Nat} (hm : 0 < m) : qtr ((4 * m : Nat) : Int) (O : Nat) ((k + 2 * m : Nat) : Int) = if qtr ((4 * m : Nat) : Int) (O : Nat) (k : Nat) < 2 then qtr ((4 * m : Nat) : Int) (O : Nat) (k : Nat) + 2 else qtr ((4 * m : Nat) : Int) (O : Nat) (k : Nat) - 2 := by
  rw [qtr_nat hm, qtr_nat hm]
  have h1 : (k + O) % (4 * m) < 4 * m := Nat.mod_lt _ (by omega)
  have e : (k + 2 * m + O) % (4 * m) = if (k + O) % (4 * m) < 2 * m then (k + O) % (4 * m) + 2 * m else (k + O) % (4 * m) - 2 * m := by
    rw [show k + 2 * m + O = (k + O) + 2 * m by omega, Nat.add_mod, Nat.mod_eq_of_lt (show 2 * m < 4 * m by omega)]
    split
    · exact Nat.mod_eq_of_lt (by omega)
    · rw [Nat.mod_eq_sub_mod (by omega), Nat.mod_eq_of_lt (by omega)]; omega
  rw [e]
  generalize (k + O) % (4 * m) = r at *
  have h2 : r < 2 * m ↔ r / m < 2 := (Nat.div_lt_iff_lt_mul hm).symm
  by_cases hr : r < 2 * m
  · rw [if_pos hr, if_pos (by have := h2.1 hr; omega), Nat.add_mul_div_right _ _ hm]; omega
  · have h3 : 2 ≤ r / m := by have := mt h2.2 hr; omega
    have h4 := Nat.add_mul_div_right (r - 2 * m) 2 hm
    rw [show r - 2 * m + 2 * m = r by omega] at h4
    rw [if_neg hr, if_neg (by omega)]; omega
theorem wave_half {m O k : Nat} {re im : Int} (hm : 0 < m) : wave ((4 * m : Nat) : Int) (O : Nat) re im ((k + 2 * m : Nat) : Int) = -wave ((4 * m : Nat) : Int) (O : Nat) re im (k : Nat) := by
  have hq := qtr_lt (p := ((4 * m : Nat) : Int)) (o := (O : Nat)) (k := (k : Nat)) (by omega)
  unfold wave
  rw [qtr_half hm]
  generalize qtr ((4 * m : Nat) : Int) (O : Nat) (k : Nat) = q at *
  obtain rfl | rfl | rfl | rfl : q = 0 ∨ q = 1 ∨ q = 2 ∨ q = 3 := by omega
  all_goals simp [waveQ]

theorem cnt_four (n m : Nat) : ((cnt n ((4 * m : Nat) : Int) : Nat) : Int) = 4 * ((n / (4 * m) * m : Nat) : Int) := by
  unfold cnt; rw [Int.toNat_natCast, Nat.mul_left_comm]; omega
theorem four_mul (re T : Int) : re * (4 * T) = 4 * (re * T) := by rw [Int.mul_left_comm]

theorem found_amp {m O n : Nat} {re im : Int} (hm : 0 < m) (f : Nat → Int) (hf : ∀ k, k < n → f k = wave ((4 * m : Nat) : Int) (O : Nat) re im (k : Nat)) :
    2 * reOf ((4 * m : Nat) : Int) (O : Nat) (lst f n) = re * (cnt n ((4 * m : Nat) : Int) : Nat) ∧ 2 * imOf ((4 * m : Nat) : Int) (O : Nat) (lst f n) = im * (cnt n ((4 * m : Nat) : Int) : Nat) := by
  have key (q : Nat) (hq : q < 4) := rsum_const (m := m) (o := O) hm hq f (waveQ (q : Nat) re im) n fun k hk h => by rw [hf k hk, wave_qtr h]
  have k0 := key 0 (by omega)
  have k1 := key 1 (by omega)
  have k2 := key 2 (by omega)
  have k3 := key 3 (by omega)
  rw [cnt_four, four_mul, four_mul]
  generalize ((n / (4 * m) * m : Nat) : Int) = T at *
  have e0 : rsum ((4 * m : Nat) : Int) (O : Nat) (lst f n) 0 0 = re * T := k0
  have e1 : rsum ((4 * m : Nat) : Int) (O : Nat) (lst f n) 0 1 = -im * T := k1
  have e2 : rsum ((4 * m : Nat) : Int) (O : Nat) (lst f n) 0 2 = -re * T := k2
  have e3 : rsum ((4 * m : Nat) : Int) (O : Nat) (lst f n) 0 3 = im * T := k3
  rw [Int.neg_mul] at e1 e2
  unfold reOf imOf
  omega
theorem found_steady {m O n : Nat} {re im st ri : Int} (hm : 0 < m) (hn : 2 * m ≤ n) (f : Nat → Int) (hf : ∀ k, k < n → f k = wave ((4 * m : Nat) : Int) (O : Nat) re im (k : Nat) + st + (k : Int) * ri) :
    reOf ((4 * m : Nat) : Int) (O : Nat) (dif (lst f n) (2 * m)) = re * (cnt (dif (lst f n) (2 * m)).length ((4 * m : Nat) : Int) : Nat) ∧ imOf ((4 * m : Nat) : Int) (O : Nat) (dif (lst f n) (2 * m)) = im * (cnt (dif (lst f n) (2 * m)).length ((4 * m : Nat) : Int) : Nat) := by
  have key (q : Nat) (hq : q < 4) := rsum_const (m := m) (o := O) hm hq (fun k => nth (lst f n) k - nth (lst f n) (k + 2 * m)) (2 * waveQ (q : Nat) re im - 2 * (m : Int) * ri) ((lst f n).length - 2 * m) fun k hk h => by
    rw [lst_length] at hk
    show nth (lst f n) k - nth (lst f n) (k + 2 * m) = _
    rw [lst_nth _ (by omega), lst_nth _ (by omega), hf k (by omega), hf (k + 2 * m) (by omega), wave_half hm, wave_qtr h]
    rw [show ((k + 2 * m : Nat) : Int) = (k : Int) + 2 * (m : Int) by omega, Int.add_mul]
    omega
  have k0 := key 0 (by omega)
  have k1 := key 1 (by omega)
  have k2 := key 2 (by omega)
  have k3 := key 3 (by omega)
  rw [dif_len, cnt_four, four_mul, four_mul]
  have hd : dif (lst f n) (2 * m) = lst (fun k => nth (lst f n) k - nth (lst f n) (k + 2 * m)) ((lst f n).length - 2 * m) := rfl
  rw [← hd] at k0 k1 k2 k3
  generalize dif (lst f n) (2 * m) = D at *
  generalize ((((lst f n).length - 2 * m) / (4 * m) * m : Nat) : Int) = T at *
  have e0 : rsum ((4 * m : Nat) : Int) (O : Nat) D 0 0 = (2 * re - 2 * (m : Int) * ri) * T := k0
  have e1 : rsum ((4 * m : Nat) : Int) (O : Nat) D 0 1 = (2 * (-im) - 2 * (m : Int) * ri) * T := k1
  have e2 : rsum ((4 * m : Nat) : Int) (O : Nat) D 0 2 = (2 * (-re) - 2 * (m : Int) * ri) * T := k2
  have e3 : rsum ((4 * m : Nat) : Int) (O : Nat) D 0 3 = (2 * im - 2 * (m : Int) * ri) * T := k3
  rw [Int.sub_mul, Int.mul_assoc 2] at e0 e1 e2 e3
  rw [Int.neg_mul] at e1 e2
  unfold reOf imOf
  omega
end Go.Proofs.Ytemihhkbieplmaa
