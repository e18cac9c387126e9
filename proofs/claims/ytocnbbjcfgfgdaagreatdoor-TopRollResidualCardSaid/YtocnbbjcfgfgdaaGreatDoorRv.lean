/- TopRollResidual: the plain laws: what two waves with a thickness show. -/
import Derived.Test.YtocnbbjcfgfgdaaGreatDoorFa
set_option linter.unusedVariables false
set_option linter.unusedSimpArgs false
namespace Go.Proofs.YtocnbbjcfgfgdaaGreatDoor
open Go.RowKit
set_option maxRecDepth 20000

theorem nth_lst (f : Nat → Int) {n k : Nat} (h : k < n) : nth (lst f n) k = f k := by
  unfold nth lst
  rw [List.getD_eq_getElem?_getD]
  simp [h]
theorem lst_congr {f g : Nat → Int} : ∀ {n : Nat}, (∀ k, k < n → f k = g k) → lst f n = lst g n
  | 0, _ => rfl
  | n + 1, h => by rw [lst_succ, lst_succ, lst_congr fun k hk => h k (by omega), h n (by omega)]
theorem qtr_half {m o k : Nat} (hm : 0 < m) : ((k + 2 * m + o) % (4 * m) / m = 2 ∧ (k + o) % (4 * m) / m = 0) ∨ ((k + 2 * m + o) % (4 * m) / m = 3 ∧ (k + o) % (4 * m) / m = 1) ∨ ((k + 2 * m + o) % (4 * m) / m = 0 ∧ (k + o) % (4 * m) / m = 2) ∨ ((k + 2 * m + o) % (4 * m) / m = 1 ∧ (k + o) % (4 * m) / m = 3) := by
  have h1 : (k + o) % (4 * m) < 4 * m := Nat.mod_lt _ (by omega)
  have hd := Nat.div_add_mod (k + o) (4 * m)
  have key : ∀ r : Nat, r < 4 * m → ∀ q : Nat, r / m = q ↔ q * m ≤ r ∧ r < (q + 1) * m := fun r _ q => by
    rw [Nat.div_eq_iff hm]
    have : (q + 1) * m = q * m + m := by rw [Nat.add_mul, Nat.one_mul]
    omega
  by_cases hl : (k + o) % (4 * m) < 2 * m
  · have e2 : (k + 2 * m + o) % (4 * m) = (k + o) % (4 * m) + 2 * m := by
      rw [show k + 2 * m + o = 4 * m * ((k + o) / (4 * m)) + ((k + o) % (4 * m) + 2 * m) by omega, Nat.mul_add_mod, Nat.mod_eq_of_lt (by omega)]
    rw [e2]
    simp only [key _ h1, key _ (show (k + o) % (4 * m) + 2 * m < 4 * m by omega)]
    omega
  · have e2 : (k + 2 * m + o) % (4 * m) = (k + o) % (4 * m) - 2 * m := by
      rw [show k + 2 * m + o = 4 * m * ((k + o) / (4 * m) + 1) + ((k + o) % (4 * m) - 2 * m) by rw [Nat.mul_add]; omega, Nat.mul_add_mod, Nat.mod_eq_of_lt (by omega)]
    rw [e2]
    simp only [key _ h1, key _ (show (k + o) % (4 * m) - 2 * m < 4 * m by omega)]
    omega
/-- Half a turn further a wave is turned round. -/
theorem wave_half {m o : Nat} (hm : 0 < m) (re im : Int) (k : Nat) : wave ((4 * m : Nat) : Int) (o : Nat) re im ((k + 2 * m : Nat) : Int) = -wave ((4 * m : Nat) : Int) (o : Nat) re im (k : Nat) := by
  unfold wave
  rw [qtr_nat hm, qtr_nat hm]
  rcases qtr_half (o := o) (k := k) hm with ⟨h1, h2⟩ | ⟨h1, h2⟩ | ⟨h1, h2⟩ | ⟨h1, h2⟩ <;> rw [h1, h2]
  · rfl
  · show im = -(-im)
    omega
  · show re = -(-re)
    omega
  · rfl
/-- A turn further a wave is as it was. -/
theorem wave_turn (p : Int) (o re im : Int) (k : Int) : wave p o re im (k + p) = wave p o re im k := by
  unfold wave qtr
  rw [show k + p + o = k + o + p by omega, Int.add_emod_right]
theorem near_mul {x b : Int} (hb : 0 < b) : near (x * b) b = x := by
  have key : ∀ g : Int, 0 ≤ g → (2 * (g * b) + b - 1) / (2 * b) = g := fun g hg => by
    have h1 : 2 * (g * b) + b - 1 = (b - 1) + g * (2 * b) := by
      rw [show g * (2 * b) = 2 * (g * b) by rw [Int.mul_left_comm]]; omega
    rw [h1, Int.add_mul_ediv_right _ _ (by omega), Int.ediv_eq_zero_of_lt (by omega) (by omega)]; omega
  unfold near
  split
  · rename_i h
    have hx : x < 0 := by
      refine Int.not_le.1 fun h1 => ?_
      have := Int.mul_nonneg h1 (Int.le_of_lt hb); omega
    rw [show -(x * b) = -x * b by rw [Int.neg_mul], key (-x) (by omega)]; omega
  · rename_i h
    have hx : 0 ≤ x := by
      refine Int.not_lt.1 fun h1 => ?_
      have := Int.mul_neg_of_neg_of_pos h1 hb; omega
    exact key x hx
theorem cnt_four (n m : Nat) : ((cnt n ((4 * m : Nat) : Int) : Nat) : Int) = 4 * ((n / (4 * m) * m : Nat) : Int) := by
  have : cnt n ((4 * m : Nat) : Int) = 4 * (n / (4 * m) * m) := by
    unfold cnt
    rw [Int.toNat_natCast, Nat.mul_left_comm]
  rw [this]; omega
/-- The sums of a wave that is c times as great, with a thickness. -/
theorem sums_wave {m o : Nat} (hm : 0 < m) (re im h c : Int) (n : Nat) (f : Nat → Int) (hf : ∀ k, k < n → f k = h + c * wave ((4 * m : Nat) : Int) (o : Nat) re im (k : Nat)) :
    reOf ((4 * m : Nat) : Int) (o : Nat) (lst f n) = 2 * (c * re) * ((n / (4 * m) * m : Nat) : Int) ∧ imOf ((4 * m : Nat) : Int) (o : Nat) (lst f n) = 2 * (c * im) * ((n / (4 * m) * m : Nat) : Int) := by
  have key (q : Nat) (hq : q < 4) : rsum ((4 * m : Nat) : Int) (o : Nat) (lst f n) 0 (q : Nat) = (h + c * waveQ (q : Nat) re im) * ((n / (4 * m) * m : Nat) : Int) :=
    rsum_const hm hq f _ n fun k hk he => by rw [hf k hk, wave_qtr he]
  have k0 := key 0 (by omega)
  have k1 := key 1 (by omega)
  have k2 := key 2 (by omega)
  have k3 := key 3 (by omega)
  have w0 : waveQ ((0 : Nat) : Int) re im = re := rfl
  have w1 : waveQ ((1 : Nat) : Int) re im = -im := rfl
  have w2 : waveQ ((2 : Nat) : Int) re im = -re := rfl
  have w3 : waveQ ((3 : Nat) : Int) re im = im := rfl
  rw [w0] at k0
  rw [w1] at k1
  rw [w2] at k2
  rw [w3] at k3
  have e0 : rsum ((4 * m : Nat) : Int) (o : Nat) (lst f n) 0 0 = _ := k0
  have e1 : rsum ((4 * m : Nat) : Int) (o : Nat) (lst f n) 0 1 = _ := k1
  have e2 : rsum ((4 * m : Nat) : Int) (o : Nat) (lst f n) 0 2 = _ := k2
  have e3 : rsum ((4 * m : Nat) : Int) (o : Nat) (lst f n) 0 3 = _ := k3
  unfold reOf imOf
  rw [e0, e1, e2, e3, ← Int.sub_mul, ← Int.sub_mul, Int.mul_neg, Int.mul_neg]
  constructor
  · congr 1; omega
  · congr 1; omega
/-- The nearest amplitude of a wave with a thickness. -/
theorem near_wave {m o : Nat} (hm : 0 < m) (re im h : Int) (n : Nat) (hn : 4 * m ≤ n) (f : Nat → Int) (hf : ∀ k, k < n → f k = h + wave ((4 * m : Nat) : Int) (o : Nat) re im (k : Nat)) :
    nearRe ((4 * m : Nat) : Int) (o : Nat) (lst f n) 0 = re ∧ nearIm ((4 * m : Nat) : Int) (o : Nat) (lst f n) 0 = im := by
  obtain ⟨h1, h2⟩ := sums_wave (o := o) hm re im h 1 n f fun k hk => by rw [hf k hk, Int.one_mul]
  have h1 : rsum ((4 * m : Nat) : Int) (o : Nat) (lst f n) 0 0 - rsum ((4 * m : Nat) : Int) (o : Nat) (lst f n) 0 2 = _ := h1
  have h2 : rsum ((4 * m : Nat) : Int) (o : Nat) (lst f n) 0 3 - rsum ((4 * m : Nat) : Int) (o : Nat) (lst f n) 0 1 = _ := h2
  have hc := cnt_pos (n := n) (p := ((4 * m : Nat) : Int)) (by omega) (by omega)
  have c4 := cnt_four n m
  unfold nearRe nearIm
  rw [h1, h2, lst_length, Int.one_mul, Int.one_mul]
  have e : ∀ x : Int, 2 * (2 * x * ((n / (4 * m) * m : Nat) : Int)) = x * ((cnt n ((4 * m : Nat) : Int) : Nat) : Int) := fun x => by
    rw [c4, Int.mul_left_comm x, Int.mul_assoc 2 x, ← Int.mul_assoc 2 2]; rfl
  rw [e re, e im]
  exact ⟨near_mul (by omega), near_mul (by omega)⟩
/-- The steady amplitude of a sum of a wave, a thickness and a wave of twice the pace. -/
theorem steady_wave {m o : Nat} (hm : 0 < m) (re im h : Int) (N : Nat) (hN : 6 * m ≤ N) (g : Nat → Int) (hg : ∀ k, k + 2 * m < N → g (k + 2 * m) = g k) (f : Nat → Int) (hf : ∀ k, k < N → f k = h + wave ((4 * m : Nat) : Int) (o : Nat) re im (k : Nat) + g k) :
    low (reOf ((4 * m : Nat) : Int) (o : Nat) (dif (lst f N) (2 * m))) (cnt (dif (lst f N) (2 * m)).length ((4 * m : Nat) : Int) : Nat) = (re, 1) ∧ low (imOf ((4 * m : Nat) : Int) (o : Nat) (dif (lst f N) (2 * m))) (cnt (dif (lst f N) (2 * m)).length ((4 * m : Nat) : Int) : Nat) = (im, 1) := by
  have e : dif (lst f N) (2 * m) = lst (fun k => 2 * wave ((4 * m : Nat) : Int) (o : Nat) re im (k : Nat)) (N - 2 * m) := by
    unfold dif
    rw [lst_length]
    refine lst_congr fun k hk => ?_
    rw [nth_lst f (by omega), nth_lst f (by omega), hf k (by omega), hf (k + 2 * m) (by omega), hg k (by omega), wave_half hm]; omega
  rw [e, lst_length]
  obtain ⟨h1, h2⟩ := sums_wave (o := o) hm re im 0 2 (N - 2 * m) (fun k => 2 * wave ((4 * m : Nat) : Int) (o : Nat) re im (k : Nat)) fun k hk => by omega
  have hc := cnt_pos (n := N - 2 * m) (p := ((4 * m : Nat) : Int)) (by omega) (by omega)
  have c4 := cnt_four (N - 2 * m) m
  rw [h1, h2]
  have e2 : ∀ x : Int, 2 * (2 * x) * (((N - 2 * m) / (4 * m) * m : Nat) : Int) = x * ((cnt (N - 2 * m) ((4 * m : Nat) : Int) : Nat) : Int) := fun x => by
    rw [c4, Int.mul_left_comm x, ← Int.mul_assoc 2 2, Int.mul_assoc]; rfl
  rw [e2 re, e2 im]
  exact ⟨low_mul (by omega), low_mul (by omega)⟩

end Go.Proofs.YtocnbbjcfgfgdaaGreatDoor
