/- Waves: the sums of a wave over whole turns (the plain law of RollFound). -/
import Derived.Test.YtocnbbjcfgfgdaaGreatDoorW4
set_option linter.unusedVariables false
set_option linter.unusedSimpArgs false
namespace Go.Proofs.YtocnbbjcfgfgdaaGreatDoor
open Go.RowKit

/-- How many of the numbers below n lie in quarter q (a turn has 4 m). -/
def cumQ (m q n : Nat) : Nat := n / (4 * m) * m + (if n % (4 * m) < q * m then 0 else if (q + 1) * m ≤ n % (4 * m) then m else n % (4 * m) - q * m)
theorem cumQ_succ {m q : Nat} (hm : 0 < m) (hq : q < 4) (n : Nat) : cumQ m q (n + 1) = cumQ m q n + if (n % (4 * m)) / m = q then 1 else 0 := by
  have h1 : n % (4 * m) < 4 * m := Nat.mod_lt _ (by omega)
  have hd := Nat.div_add_mod n (4 * m)
  have hiff : (n % (4 * m)) / m = q ↔ q * m ≤ n % (4 * m) ∧ n % (4 * m) < (q + 1) * m := by
    rw [Nat.div_eq_iff hm]
    have : (q + 1) * m = q * m + m := by rw [Nat.add_mul, Nat.one_mul]
    omega
  have hq1 : (q + 1) * m = q * m + m := by rw [Nat.add_mul, Nat.one_mul]
  have hq4 : (q + 1) * m ≤ 4 * m := Nat.mul_le_mul_right _ hq
  by_cases hl : n % (4 * m) + 1 < 4 * m
  · have e1 : (n + 1) / (4 * m) = n / (4 * m) := by
      rw [show n + 1 = 4 * m * (n / (4 * m)) + (n % (4 * m) + 1) by omega, Nat.mul_add_div (by omega), Nat.div_eq_of_lt hl]; omega
    have e2 : (n + 1) % (4 * m) = n % (4 * m) + 1 := by
      rw [show n + 1 = 4 * m * (n / (4 * m)) + (n % (4 * m) + 1) by omega, Nat.mul_add_mod, Nat.mod_eq_of_lt hl]
    unfold cumQ
    rw [e1, e2]
    simp only [hiff]
    generalize n / (4 * m) * m = X
    generalize n % (4 * m) = Y at *
    generalize q * m = Z at *
    generalize (q + 1) * m = V at *
    split <;> split <;> (try split) <;> (try split) <;> (try split) <;> omega
  · have e1 : (n + 1) / (4 * m) = n / (4 * m) + 1 := by
      rw [show n + 1 = 4 * m * (n / (4 * m) + 1) by rw [Nat.mul_add]; omega, Nat.mul_div_cancel_left _ (by omega)]
    have e2 : (n + 1) % (4 * m) = 0 := by
      rw [show n + 1 = 4 * m * (n / (4 * m) + 1) by rw [Nat.mul_add]; omega, Nat.mul_mod_right]
    unfold cumQ
    rw [e1, e2, Nat.add_mul, Nat.one_mul]
    simp only [hiff]
    generalize n / (4 * m) * m = X
    generalize n % (4 * m) = Y at *
    generalize q * m = Z at *
    generalize (q + 1) * m = V at *
    split <;> split <;> (try split) <;> (try split) <;> (try split) <;> omega
theorem cumQ_turn {m q : Nat} (hm : 0 < m) (n t : Nat) : cumQ m q (n + t * (4 * m)) = cumQ m q n + t * m := by
  unfold cumQ
  rw [Nat.add_mul_mod_self_right, Nat.add_mul_div_right _ _ (by omega), Nat.add_mul]
  omega

theorem qtr_nat {m o k : Nat} (hm : 0 < m) : qtr ((4 * m : Nat) : Int) (o : Nat) (k : Nat) = (((k + o) % (4 * m) / m : Nat) : Int) := by
  unfold qtr
  rw [show ((k : Int) + (o : Int)) = ((k + o : Nat) : Int) by omega, ← Int.natCast_emod, show (((k + o) % (4 * m) : Nat) : Int) * 4 = (((k + o) % (4 * m) * 4 : Nat) : Int) by omega, ← Int.natCast_ediv]
  congr 1
  rw [Nat.mul_comm _ 4, Nat.mul_div_mul_left _ _ (by omega)]

/-- The sum over one quarter, where the samples of that quarter are all c. -/
theorem sq_const {m o q : Nat} (hm : 0 < m) (hq : q < 4) (f : Nat → Int) (c : Int) : ∀ n, (∀ k, k < n → qtr ((4 * m : Nat) : Int) (o : Nat) (k : Nat) = (q : Nat) → f k = c) →
    sq ((4 * m : Nat) : Int) (o : Nat) (q : Nat) (lst f n) 0 = c * ((cumQ m q (n + o) : Nat) - (cumQ m q o : Nat) : Int)
  | 0, _ => by
    rw [Nat.zero_add, Int.sub_self, Int.mul_zero]; rfl
  | n + 1, h => by
    rw [lst_succ, sq_snoc, sq_const hm hq f c n fun k hk => h k (by omega), lst_length, Int.zero_add]
    have hs := cumQ_succ hm hq (n + o)
    rw [show n + 1 + o = n + o + 1 by omega, hs]
    by_cases hqk : qtr ((4 * m : Nat) : Int) (o : Nat) (n : Nat) = (q : Nat)
    · rw [if_pos hqk, h n (by omega) hqk]
      rw [qtr_nat hm] at hqk
      rw [if_pos (Int.ofNat.inj hqk)]
      rw [show (((cumQ m q (n + o) + 1 : Nat) : Int) - (cumQ m q o : Nat)) = ((cumQ m q (n + o) : Nat) - (cumQ m q o : Nat) : Int) + 1 by omega, Int.mul_add, Int.mul_one]
    · rw [if_neg hqk]
      rw [qtr_nat hm] at hqk
      rw [if_neg (fun e => hqk (congrArg Int.ofNat e)), Int.add_zero, Nat.add_zero]
theorem lst_take (f : Nat → Int) {c n : Nat} (h : c ≤ n) : (lst f n).take c = lst f c := by
  unfold lst; rw [← List.map_take, List.take_range, Nat.min_eq_left h]
theorem drum_nat {p o : Int} (hd : Drum p o) (h4 : p % 4 = 0) : ∃ m O : Nat, 0 < m ∧ m ≤ 16 ∧ p = ((4 * m : Nat) : Int) ∧ o = (O : Nat) ∧ O < 4 * m := by
  obtain ⟨d1, d2, d3, d4⟩ := hd
  exact ⟨(p / 4).toNat, o.toNat, by omega, by omega, by omega, by omega, by omega⟩
theorem rsum_const {m o q : Nat} (hm : 0 < m) (hq : q < 4) (f : Nat → Int) (c : Int) (n : Nat) (h : ∀ k, k < n → qtr ((4 * m : Nat) : Int) (o : Nat) (k : Nat) = (q : Nat) → f k = c) :
    rsum ((4 * m : Nat) : Int) (o : Nat) (lst f n) 0 (q : Nat) = c * ((n / (4 * m) * m : Nat) : Int) := by
  unfold rsum
  rw [lst_length]
  have hc : cnt n ((4 * m : Nat) : Int) = n / (4 * m) * (4 * m) := by unfold cnt; rw [Int.toNat_natCast]
  rw [hc, lst_take f (Nat.div_mul_le_self _ _), sq_const hm hq f c _ fun k hk => h k (Nat.lt_of_lt_of_le hk (Nat.div_mul_le_self _ _))]
  congr 1
  rw [Nat.add_comm, cumQ_turn hm]
  omega

/-- The sums of a wave, and of a wave that is twice as great minus a constant. -/
theorem wave_qtr {p o re im k q : Int} (h : qtr p o k = q) : wave p o re im k = waveQ q re im := by unfold wave; rw [h]
theorem low_mul {x n : Int} (hn : 0 < n) : low (x * n) n = (x, 1) := by
  have hg : ((Int.gcd (x * n) n : Nat) : Int) = n := by
    rw [Int.gcd_mul_left_left]; omega
  unfold low
  rw [hg, Int.mul_tdiv_cancel x (by omega), Int.ediv_self (by omega)]
end Go.Proofs.YtocnbbjcfgfgdaaGreatDoor
