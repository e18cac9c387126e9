/- The law FlatMean: what it answers. -/
import Derived.Test.YtgklcfjfegceeaaVg
import Derived.Test.YtgklcfjfegceeaaTk
import Derived.Test.YtgklcfjfegceeaaPs
set_option linter.unusedVariables false
set_option linter.unusedSimpArgs false
namespace Go.Proofs.Ytgklcfjfegceeaa
open Go.RowKit
set_option maxRecDepth 20000
set_option maxHeartbeats 8000000

theorem lowR_mul {n d : Int} (h : 0 < d) : 0 < (Int.gcd n d : Int) ∧ n = (Int.gcd n d : Int) * (low n d).1 ∧ d = (Int.gcd n d : Int) * (low n d).2 := by
  have hg : 0 < Int.gcd n d := Int.gcd_pos_of_ne_zero_right n (by omega)
  refine ⟨by omega, ?_, ?_⟩
  · exact (Int.mul_tdiv_cancel' (Int.gcd_dvd_left ..)).symm
  · exact (Int.mul_ediv_cancel' (Int.gcd_dvd_right ..)).symm
theorem lowR_lowP {n d : Int} (h : 0 < d) : lowP (low n d) = true := by
  obtain ⟨h1, h2, h3⟩ := lowR_mul (n := n) h
  have hg : Int.gcd (low n d).1 (low n d).2 = 1 := by
    have := Int.gcd_mul_left (Int.gcd n d : Int) (low n d).1 (low n d).2
    rw [← h2, ← h3] at this
    have e : (Int.gcd n d : Int).natAbs = Int.gcd n d := by omega
    rw [e] at this
    have h4 : 0 < Int.gcd n d := by omega
    exact Nat.eq_of_mul_eq_mul_left h4 (by rw [← this, Nat.mul_one])
  unfold lowP
  rw [hg, decide_eq_true (low_pos h)]; rfl
theorem lowR_size {n d : Int} (h : 0 < d) : (low n d).1.natAbs ≤ n.natAbs ∧ (low n d).2 ≤ d := by
  refine ⟨Int.natAbs_tdiv_le_natAbs n _, ?_⟩
  exact Int.ediv_le_self _ (Int.le_of_lt h)
theorem lowR_sign {n d : Int} (h : 0 < d) : (0 < (low n d).1 ↔ 0 < n) ∧ ((low n d).1 < 0 ↔ n < 0) := by
  obtain ⟨h1, h2, h3⟩ := lowR_mul (n := n) h
  generalize (low n d).1 = x at *
  generalize (Int.gcd n d : Int) = g at *
  have pos : 0 < x → 0 < n := fun hx => by rw [h2]; exact Int.mul_pos h1 hx
  have neg : x < 0 → n < 0 := fun hx => by rw [h2]; exact Int.mul_neg_of_pos_of_neg h1 hx
  have zero : x = 0 → n = 0 := fun hx => by rw [h2, hx, Int.mul_zero]
  constructor <;> constructor <;> intro hh
  · exact pos hh
  · rcases Int.lt_trichotomy x 0 with h | h | h
    · have := neg h; omega
    · have := zero h; omega
    · exact h
  · exact neg hh
  · rcases Int.lt_trichotomy x 0 with h | h | h
    · exact h
    · have := zero h; omega
    · have := pos h; omega
theorem lowR_divInt {n d : Int} (h : 0 < d) : Rat.divInt (low n d).1 (low n d).2 = Rat.divInt n d := by
  obtain ⟨h1, h2, h3⟩ := lowR_mul (n := n) h
  have h4 : Rat.divInt n d = Rat.divInt ((Int.gcd n d : Int) * (low n d).1) ((Int.gcd n d : Int) * (low n d).2) := by rw [← h2, ← h3]
  rw [h4, Rat.divInt_mul_left (by omega)]
theorem prE_of {p : List Int} (h1 : 3 ≤ p.length) (h2 : p.length % 2 = 1) (h3 : p.length ≤ 9) (h4 : ∀ x ∈ p, 1 ≤ x ∧ x ≤ 100000) : prE p = 0 := by
  have e1 : (!(p.any fun n => !inR n 1 100000)) = true := by
    rw [Bool.not_eq_true', List.any_eq_false]
    intro x hx
    rw [inR_iff.2 (h4 x hx)]; simp
  unfold prE
  rw [decide_eq_true (show (3 : Int) ≤ (p.length : Int) by omega), decide_eq_true (show (p.length : Int) % 2 = 1 by omega), decide_eq_true (show (p.length : Int) ≤ 9 by omega), e1]
  rfl
def nF (b a : List Int) (i : Nat) : Int := nth b i * sumL a - nth a i * sumL b
def nT (b a : List Int) : Nat → Int
  | 0 => 0
  | k + 1 => nT b a k + nF b a k
theorem nT_eq (b a : List Int) : ∀ k, nT b a k = sumT b k * sumL a - sumT a k * sumL b
  | 0 => by show (0 : Int) = 0 * _ - 0 * _; rw [Int.zero_mul, Int.zero_mul, Int.sub_zero]
  | k + 1 => by
    show nT b a k + (nth b k * sumL a - nth a k * sumL b) = (sumT b k + nth b k) * sumL a - (sumT a k + nth a k) * sumL b
    rw [nT_eq b a k, Int.add_mul, Int.add_mul]; omega
theorem nT_zero {b a : List Int} (h : a.length = b.length) : nT b a b.length = 0 := by
  rw [nT_eq]
  have e1 : sumT b b.length = sumL b := rfl
  have e2 : sumT a b.length = sumL a := by unfold sumL; rw [h]
  rw [e1, e2, Int.mul_comm]; omega
theorem nT_neg {b a : List Int} : ∀ k, (∀ i, i < k → nF b a i ≤ 0) → nT b a k ≤ 0 ∧ (nT b a k = 0 → ∀ i, i < k → nF b a i = 0)
  | 0, _ => ⟨Int.le_refl _, fun _ i hi => by omega⟩
  | k + 1, h => by
    obtain ⟨h1, h2⟩ := nT_neg k fun i hi => h i (by omega)
    have h3 := h k (by omega)
    have e : nT b a (k + 1) = nT b a k + nF b a k := rfl
    refine ⟨by omega, fun h0 i hi => ?_⟩
    by_cases hik : i = k
    · subst hik; omega
    · exact h2 (by omega) i (by omega)
theorem nT_pos {b a : List Int} : ∀ k, (∀ i, i < k → 0 ≤ nF b a i) → 0 ≤ nT b a k ∧ (nT b a k = 0 → ∀ i, i < k → nF b a i = 0)
  | 0, _ => ⟨Int.le_refl _, fun _ i hi => by omega⟩
  | k + 1, h => by
    obtain ⟨h1, h2⟩ := nT_pos k fun i hi => h i (by omega)
    have h3 := h k (by omega)
    have e : nT b a (k + 1) = nT b a k + nF b a k := rfl
    refine ⟨by omega, fun h0 i hi => ?_⟩
    by_cases hik : i = k
    · subst hik; omega
    · exact h2 (by omega) i (by omega)
def upT (b a : List Int) : Nat → Bool
  | 0 => false
  | k + 1 => upT b a k || decide (0 < (chF b a k).1)
def dnT (b a : List Int) : Nat → Bool
  | 0 => false
  | k + 1 => dnT b a k || decide ((chF b a k).1 < 0)
theorem upT_iff (b a : List Int) : ∀ k, upT b a k = true ↔ ∃ i, i < k ∧ 0 < (chF b a i).1
  | 0 => by simp [upT]
  | k + 1 => by
    show (upT b a k || decide (0 < (chF b a k).1)) = true ↔ _
    rw [Bool.or_eq_true, decide_eq_true_eq, upT_iff b a k]
    constructor
    · rintro (⟨i, hi, h⟩ | h)
      · exact ⟨i, by omega, h⟩
      · exact ⟨k, by omega, h⟩
    · rintro ⟨i, hi, h⟩
      by_cases hik : i = k
      · subst hik; exact .inr h
      · exact .inl ⟨i, by omega, h⟩
theorem dnT_iff (b a : List Int) : ∀ k, dnT b a k = true ↔ ∃ i, i < k ∧ (chF b a i).1 < 0
  | 0 => by simp [dnT]
  | k + 1 => by
    show (dnT b a k || decide ((chF b a k).1 < 0)) = true ↔ _
    rw [Bool.or_eq_true, decide_eq_true_eq, dnT_iff b a k]
    constructor
    · rintro (⟨i, hi, h⟩ | h)
      · exact ⟨i, by omega, h⟩
      · exact ⟨k, by omega, h⟩
    · rintro ⟨i, hi, h⟩
      by_cases hik : i = k
      · subst hik; exact .inr h
      · exact .inl ⟨i, by omega, h⟩
theorem up_down {b a : List Int} (hl : a.length = b.length) (hd : ∀ i, i < b.length → 0 < nth a i * sumL b) : upT b a b.length = dnT b a b.length := by
  have hz := nT_zero hl
  have hs : ∀ i, i < b.length → (0 < (chF b a i).1 ↔ 0 < nF b a i) ∧ ((chF b a i).1 < 0 ↔ nF b a i < 0) := fun i hi => lowR_sign (hd i hi)
  rw [Bool.eq_iff_iff, upT_iff, dnT_iff]
  constructor
  · rintro ⟨i, hi, h⟩
    refine Decidable.byContradiction fun hn => ?_
    have := (nT_pos b.length fun k hk => by
      refine Int.not_lt.1 fun h2 => hn ⟨k, hk, (hs k hk).2.2 h2⟩).2 hz i hi
    have := (hs i hi).1.1 h
    omega
  · rintro ⟨i, hi, h⟩
    refine Decidable.byContradiction fun hn => ?_
    have := (nT_neg b.length fun k hk => by
      refine Int.not_lt.1 fun h2 => hn ⟨k, hk, (hs k hk).1.2 h2⟩).2 hz i hi
    have := (hs i hi).2.1 h
    omega
/-- Profiles of numbers of at most 1000. -/
structure MeanOk (b a : List Int) : Prop where
  pb : prE b = 0
  pa : prE a = 0
  l : a.length = b.length
  fb : ∀ i, i < b.length → 1 ≤ nth b i ∧ nth b i ≤ 1000
  fa : ∀ i, i < b.length → 1 ≤ nth a i ∧ nth a i ≤ 1000
theorem sumT_1000 {l : List Int} {n : Nat} (h : ∀ i, i < n → 1 ≤ nth l i ∧ nth l i ≤ 1000) : ∀ k, k ≤ n → (k : Int) ≤ sumT l k ∧ sumT l k ≤ 1000 * k
  | 0, _ => by unfold sumT; omega
  | k + 1, hk => by
    have h1 := sumT_1000 h k (by omega)
    have h2 := h k (by omega)
    unfold sumT; omega
theorem MeanOk.len {b a : List Int} (h : MeanOk b a) : 3 ≤ b.length ∧ b.length ≤ 9 := by
  obtain ⟨h1, _, h3, _⟩ := prE_ok h.pb; exact ⟨h1, h3⟩
theorem MeanOk.sb {b a : List Int} (h : MeanOk b a) : 1 ≤ sumL b ∧ sumL b ≤ 9000 := by
  have := sumT_1000 h.fb b.length (Nat.le_refl _)
  have := h.len
  unfold sumL; omega
theorem MeanOk.sa {b a : List Int} (h : MeanOk b a) : 1 ≤ sumL a ∧ sumL a ≤ 9000 := by
  have h1 := sumT_1000 h.fa b.length (Nat.le_refl _)
  have := h.len
  rw [← h.l] at h1
  unfold sumL; rw [← h.l] at this; omega
theorem mul_bnd2 {x y : Int} (h1 : 1 ≤ x ∧ x ≤ 1000) (h2 : 1 ≤ y ∧ y ≤ 9000) : 1 ≤ x * y ∧ x * y ≤ 9000000 := by
  have a1 : x * y ≤ x * 9000 := Int.mul_le_mul_of_nonneg_left h2.2 (by omega)
  have a2 : x * 1 ≤ x * y := Int.mul_le_mul_of_nonneg_left h2.1 (by omega)
  omega
theorem MeanOk.n {b a : List Int} (h : MeanOk b a) {i : Nat} (hi : i < b.length) : (-9000000 ≤ nF b a i ∧ nF b a i ≤ 9000000) ∧ (1 ≤ nth a i * sumL b ∧ nth a i * sumL b ≤ 9000000) := by
  have m1 := mul_bnd2 (h.fb i hi) h.sa
  have m2 := mul_bnd2 (h.fa i hi) h.sb
  unfold nF
  exact ⟨⟨by omega, by omega⟩, m2⟩
theorem MeanOk.nT {b a : List Int} (h : MeanOk b a) : ∀ k, k ≤ b.length → -9000000 * (k : Int) ≤ nT b a k ∧ nT b a k ≤ 9000000 * (k : Int)
  | 0, _ => ⟨Int.le_refl _, Int.le_refl _⟩
  | k + 1, hk => by
    have h1 := h.nT k (by omega)
    have h2 := (h.n (i := k) (by omega)).1
    show _ ≤ Go.Proofs.Ytgklcfjfegceeaa.nT b a k + nF b a k ∧ _ + nF b a k ≤ _
    omega
theorem MeanOk.ch {b a : List Int} (h : MeanOk b a) {i : Nat} (hi : i < b.length) : (-9000000 ≤ (chF b a i).1 ∧ (chF b a i).1 ≤ 9000000) ∧ (0 < (chF b a i).2 ∧ (chF b a i).2 ≤ 9000000) := by
  have hn := h.n hi
  have hd : 0 < nth a i * sumL b := by omega
  have hs := lowR_size (n := nF b a i) hd
  have hp := low_pos (n := nF b a i) hd
  have e : chF b a i = low (nF b a i) (nth a i * sumL b) := rfl
  rw [e]
  exact ⟨⟨by omega, by omega⟩, hp, by omega⟩
theorem MeanOk.sm {b a : List Int} (h : MeanOk b a) {i : Nat} (hi : i < b.length) : smF (chF b a i) = true := by
  have := h.ch hi
  unfold smF
  rw [inR_iff.2 ⟨by omega, by omega⟩, decide_eq_true (by omega)]; rfl
theorem chA_true {b a : List Int} : ∀ k, (∀ i, i < k → smF (chF b a i) = true) → chA b a k = true
  | 0, _ => rfl
  | k + 1, h => by
    show (chA b a k && smF (chF b a k)) = true
    rw [chA_true k fun i hi => h i (by omega), h k (by omega)]; rfl
/-- The sum of the first changes, weighted. -/
def pF (b a : List Int) (k : Nat) : Rat := Rat.divInt (nT b a k) (sumL b)
theorem MeanOk.step {b a : List Int} (h : MeanOk b a) {k : Nat} (hk : k < b.length) : pF b a k + (nth a k : Rat) * Rat.divInt (chF b a k).1 (chF b a k).2 = pF b a (k + 1) := by
  have hn := h.n hk
  have hsb := h.sb
  have ha := h.fa k hk
  have e1 : Rat.divInt (chF b a k).1 (chF b a k).2 = Rat.divInt (nF b a k) (nth a k * sumL b) := lowR_divInt (by omega)
  have e2 : (nth a k : Rat) = Rat.divInt (nth a k) 1 := by
    have := Rat.num_divInt_den (nth a k : Rat)
    exact this.symm
  rw [e1, e2, Rat.divInt_mul_divInt, Int.one_mul, Rat.divInt_mul_left (by omega)]
  unfold pF
  rw [Rat.divInt_add_divInt _ _ (by omega) (by omega), ← Int.add_mul, Rat.divInt_mul_right (by omega)]
  rfl
theorem ratS_of {n d : Int} (hd : 0 < d) (h1 : I64 n) (h2 : I64 d) : RatS 10000 (Rat.divInt n d) := ratS_divInt n hd (Nat.le_trans (wlen_int h1) (by decide)) (Nat.le_trans (wlen_int h2) (by decide))
theorem ratS_int {n : Int} (h1 : I64 n) : RatS 10000 (n : Rat) := ⟨Nat.le_trans (wlen_int h1) (by decide), by show (dg 1).length ≤ 10000; exact Nat.le_trans (wlen_int (n := 1) ⟨by decide, by decide⟩) (by decide)⟩
/-- A profile that is many times as thick. -/
def mF (b : List Int) (m : Int) (k : Nat) : Int := m * nth b k
theorem sumT_many (b : List Int) (m : Int) {n : Nat} : ∀ k, k ≤ n → sumT (lst (mF b m) n) k = m * sumT b k
  | 0, _ => (Int.mul_zero _).symm
  | k + 1, hk => by
    show sumT (lst (mF b m) n) k + nth (lst (mF b m) n) k = m * (sumT b k + nth b k)
    rw [sumT_many b m k (by omega), lst_nth _ (by omega), Int.mul_add]; rfl
theorem ch_many {b : List Int} {m : Int} {i : Nat} (hi : i < b.length) (hb : 1 ≤ nth b i) (hs : 1 ≤ sumL b) (hm : 1 ≤ m) : chF (lst (mF b m) b.length) b i = (0, 1) := by
  have e1 : sumL (lst (mF b m) b.length) = m * sumL b := by
    unfold sumL
    rw [lst_length]; exact sumT_many b m _ (Nat.le_refl _)
  unfold chF
  rw [e1, lst_nth _ hi]
  have e2 : mF b m i * sumL b - nth b i * (m * sumL b) = 0 := by unfold mF; rw [Int.mul_left_comm, Int.mul_assoc]; omega
  rw [e2]
  have hd : 0 < nth b i * (m * sumL b) := Int.mul_pos (by omega) (Int.mul_pos (by omega) (by omega))
  generalize nth b i * (m * sumL b) = d at *
  unfold low
  rw [Int.gcd_zero_left]
  have e3 : (d.natAbs : Int) = d := by omega
  rw [e3, Int.zero_tdiv, Int.ediv_self (by omega)]

end Go.Proofs.Ytgklcfjfegceeaa
