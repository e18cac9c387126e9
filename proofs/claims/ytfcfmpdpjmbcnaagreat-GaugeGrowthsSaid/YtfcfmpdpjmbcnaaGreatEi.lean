/- Merged: XDi XDj. -/
import Derived.Test.YtfcfmpdpjmbcnaaGreatM9
set_option linter.unusedVariables false
set_option linter.unusedSimpArgs false
/- The division of a number of two digits by one digit, by halves of digits (Knuth). Nothing of the program. -/
namespace Go.Proofs.YtfcfmpdpjmbcnaaGreat
open Go.RowKit
set_option maxRecDepth 20000

abbrev Bh : Nat := 4294967296
theorem dv_exit {u u1 y yn1 yn0 q r : Nat} (hy : y = yn1 * 4294967296 + yn0) (hq : q * yn1 + r = u) (h : q * yn0 ≤ 4294967296 * r + u1) : q * y ≤ u * 4294967296 + u1 := by
  subst hy hq
  rw [Nat.mul_add, Nat.add_mul, ← Nat.mul_assoc, Nat.mul_comm r]
  omega
theorem dv_more {u u1 y yn1 yn0 q r : Nat} (hy : y = yn1 * 4294967296 + yn0) (hu : u < y) (h1 : u1 < 4294967296) (hq : q * yn1 + r = u) (h : 4294967296 ≤ q ∨ 4294967296 * r + u1 < q * yn0) : u * 4294967296 + u1 < q * y := by
  rcases h with h | h
  · have h2 : 4294967296 * y ≤ q * y := Nat.mul_le_mul_right _ h
    omega
  · subst hy hq
    rw [Nat.mul_add, Nat.add_mul, ← Nat.mul_assoc, Nat.mul_comm r]
    omega
theorem dv_break {u1 yn0 q r : Nat} (h0 : yn0 < 4294967296) (hq : q ≤ 4294967296) (hr : 4294967296 ≤ r) : q * yn0 ≤ 4294967296 * r + u1 := by
  have h1 : q * yn0 ≤ 4294967296 * yn0 := Nat.mul_le_mul_right _ hq
  omega
/-- What is known at the loop's head. -/
structure DvJ (u u1 y yn1 q r : Nat) : Prop where
  e : q * yn1 + r = u
  le : (u * 4294967296 + u1) / y ≤ q
  r : r < 4294967296
  q : q ≤ 4294967297
theorem dv_start {u u1 y yn1 yn0 : Nat} (hy : y = yn1 * 4294967296 + yn0) (h0 : yn0 < 4294967296) (hn : 2147483648 ≤ yn1) (hn2 : yn1 < 4294967296) (hu : u < y) (h1 : u1 < 4294967296) : DvJ u u1 y yn1 (u / yn1) (u % yn1) := by
  have hm := Nat.mod_lt u (show 0 < yn1 by omega)
  have hd := Nat.div_add_mod u yn1
  refine ⟨by rw [Nat.mul_comm]; exact hd, ?_, by omega, ?_⟩
  · rw [Nat.le_div_iff_mul_le (by omega)]
    have h2 := Nat.div_mul_le_self (u * 4294967296 + u1) y
    generalize (u * 4294967296 + u1) / y = q at *
    subst hy
    rw [Nat.mul_add, ← Nat.mul_assoc] at h2
    omega
  · refine Nat.le_of_lt_succ (Nat.div_lt_of_lt_mul ?_)
    show u < yn1 * 4294967298
    omega
theorem dv_done {u u1 y yn1 yn0 q r : Nat} (hy : y = yn1 * 4294967296 + yn0) (hp : 0 < y) (hJ : DvJ u u1 y yn1 q r) (h : q * yn0 ≤ 4294967296 * r + u1) : q = (u * 4294967296 + u1) / y := by
  have h1 := dv_exit hy hJ.e h
  have h2 := (Nat.le_div_iff_mul_le hp).2 h1
  have := hJ.le
  omega
theorem dv_step {u u1 y yn1 yn0 q r : Nat} (hy : y = yn1 * 4294967296 + yn0) (hu : u < y) (h1 : u1 < 4294967296) (hJ : DvJ u u1 y yn1 (q + 1) r) (h : 4294967296 ≤ q + 1 ∨ 4294967296 * r + u1 < (q + 1) * yn0) (hr : r + yn1 < 4294967296) : DvJ u u1 y yn1 q (r + yn1) := by
  have h2 := dv_more hy hu h1 hJ.e h
  have h3 : (u * 4294967296 + u1) / y < q + 1 := (Nat.div_lt_iff_lt_mul (by omega)).2 h2
  have he := hJ.e
  rw [Nat.add_mul, Nat.one_mul] at he
  exact ⟨by omega, by omega, hr, by have := hJ.q; omega⟩
theorem dv_last {u u1 y yn1 yn0 q r : Nat} (hy : y = yn1 * 4294967296 + yn0) (h0 : yn0 < 4294967296) (hu : u < y) (h1 : u1 < 4294967296) (hJ : DvJ u u1 y yn1 (q + 1) r) (h : 4294967296 ≤ q + 1 ∨ 4294967296 * r + u1 < (q + 1) * yn0) (hr : 4294967296 ≤ r + yn1) : q = (u * 4294967296 + u1) / y := by
  have h2 := dv_more hy hu h1 hJ.e h
  have h3 : (u * 4294967296 + u1) / y < q + 1 := (Nat.div_lt_iff_lt_mul (by omega)).2 h2
  have he := hJ.e
  rw [Nat.add_mul, Nat.one_mul] at he
  have h4 := dv_exit (u := u) (u1 := u1) hy (q := q) (r := r + yn1) (by omega) (dv_break h0 (by have := hJ.q; omega) hr)
  have h5 := (Nat.le_div_iff_mul_le (show 0 < y by omega)).2 h4
  omega
/-- At a loop's head the quotient is above 0 where it is too great. -/
theorem dv_pos {u u1 y yn1 yn0 q r : Nat} (hy : y = yn1 * 4294967296 + yn0) (hJ : DvJ u u1 y yn1 q r) (h : 4294967296 ≤ q ∨ 4294967296 * r + u1 < q * yn0) : 0 < q := by
  rcases h with h | h
  · omega
  · refine Nat.pos_of_ne_zero fun e => ?_
    subst e
    rw [Nat.zero_mul] at h
    omega
/-- Two halves. -/
theorem dv_two (N y B u0 : Nat) (hy : 0 < y) : (N * B + u0) / y = N / y * B + (N % y * B + u0) / y ∧ (N * B + u0) % y = (N % y * B + u0) % y := by
  have e : N * B + u0 = y * (N / y * B) + (N % y * B + u0) := by
    conv => lhs; rw [← Nat.div_add_mod N y]
    rw [Nat.add_mul, Nat.mul_assoc]
    omega
  constructor
  · rw [e, Nat.mul_add_div hy]
  · rw [e, Nat.mul_add_mod]
theorem dv_norm (N y k : Nat) (hk : 0 < k) : N * k / (y * k) = N / y ∧ N * k % (y * k) / k = N % y := by
  constructor
  · exact Nat.mul_div_mul_right _ _ hk
  · rw [Nat.mul_mod_mul_right, Nat.mul_div_cancel _ hk]
theorem dv_half (N y B u0 : Nat) (hy : 0 < y) (h0 : u0 < B) : (N % y * B + u0) / y < B := by
  rw [Nat.div_lt_iff_lt_mul hy]
  have h1 := Nat.mod_lt N hy
  have h2 : (N % y + 1) * B ≤ y * B := Nat.mul_le_mul_right _ h1
  rw [Nat.add_mul, Nat.one_mul, Nat.mul_comm y] at h2
  omega

end Go.Proofs.YtfcfmpdpjmbcnaaGreat

/- Numbers of two digits to the base 2 to the power of 64, with their sign (chapter 5). Nothing of the program. -/
namespace Go.Proofs.YtfcfmpdpjmbcnaaGreat
open Go.RowKit
set_option maxRecDepth 20000

abbrev Wd := Nat × Bool
abbrev wd0 : Wd := (0, false)
def wvl (w : Wd) : Int := bif w.2 then -(w.1 : Int) else (w.1 : Int)
def byW (w : Wd) (n : Int) : Wd := (w.1 * n.natAbs, w.2 != decide (n < 0))
def plW (a b : Wd) : Wd := bif a.2 == b.2 then (a.1 + b.1, a.2) else bif decide (a.1 < b.1) then (b.1 - a.1, b.2) else (a.1 - b.1, a.2)
def ovW (w : Wd) (d : Nat) : Wd := (w.1 / d, w.2)
def ofW (n : Int) : Wd := (n.natAbs, decide (n < 0))
def eqW (a b : Wd) : Bool := a.1 == b.1 && (a.2 == b.2 || a.1 == 0)
theorem wvl_abs (w : Wd) : (wvl w).natAbs = w.1 := by
  obtain ⟨m, s⟩ := w
  cases s
  · show ((m : Int)).natAbs = m
    omega
  · show (-(m : Int)).natAbs = m
    omega
theorem wvl_of (n : Int) : wvl (ofW n) = n := by
  unfold wvl ofW
  by_cases h : n < 0
  · rw [decide_eq_true h]
    show -((n.natAbs : Nat) : Int) = n
    omega
  · rw [decide_eq_false h]
    show ((n.natAbs : Nat) : Int) = n
    omega
theorem wvl_by (w : Wd) (n : Int) : wvl (byW w n) = wvl w * n := by
  obtain ⟨m, s⟩ := w
  unfold byW wvl
  by_cases h : n < 0
  · rw [decide_eq_true h]
    have e : (n.natAbs : Int) = -n := by omega
    cases s
    · show -((m * n.natAbs : Nat) : Int) = (m : Int) * n
      rw [Int.natCast_mul, e, Int.mul_neg, Int.neg_neg]
    · show ((m * n.natAbs : Nat) : Int) = -(m : Int) * n
      rw [Int.natCast_mul, e, Int.mul_neg, Int.neg_mul]
  · rw [decide_eq_false h]
    have e : (n.natAbs : Int) = n := by omega
    cases s
    · show ((m * n.natAbs : Nat) : Int) = (m : Int) * n
      rw [Int.natCast_mul, e]
    · show -((m * n.natAbs : Nat) : Int) = -(m : Int) * n
      rw [Int.natCast_mul, e, Int.neg_mul]
theorem wvl_pl (a b : Wd) : wvl (plW a b) = wvl a + wvl b := by
  obtain ⟨m, s⟩ := a
  obtain ⟨n, t⟩ := b
  cases s <;> cases t <;> by_cases h : m < n <;> simp [wvl, plW, h] <;> omega
theorem plW_le (a b : Wd) : (plW a b).1 ≤ a.1 + b.1 := by
  obtain ⟨m, s⟩ := a
  obtain ⟨n, t⟩ := b
  cases s <;> cases t <;> by_cases h : m < n <;> simp [plW, h] <;> omega
theorem eqW_iff (a b : Wd) : eqW a b = decide (wvl a = wvl b) := by
  obtain ⟨m, s⟩ := a
  obtain ⟨n, t⟩ := b
  rw [Bool.eq_iff_iff, decide_eq_true_iff]
  cases s <;> cases t <;> simp only [wvl, eqW, cond_true, cond_false, Bool.and_eq_true, Bool.or_eq_true, beq_iff_eq, reduceCtorEq, eq_self, false_or, true_or, and_true] <;> omega
theorem wvl_ov {w : Wd} {d : Nat} {q : Int} (hd : 0 < d) (h : wvl w = q * (d : Int)) : wvl (ovW w d) = q := by
  obtain ⟨m, s⟩ := w
  cases s
  · have h : (m : Int) = q * (d : Int) := h
    show ((m / d : Nat) : Int) = q
    rw [Int.natCast_ediv, h, Int.mul_ediv_cancel _ (by omega)]
  · have h : -(m : Int) = q * (d : Int) := h
    have h2 : (m : Int) = -q * (d : Int) := by rw [Int.neg_mul]; omega
    show -((m / d : Nat) : Int) = q
    rw [Int.natCast_ediv, h2, Int.mul_ediv_cancel _ (by omega)]
    omega
/-- A sum of products. -/
def smW (cs : List Int) (st : List Wd) : Nat → Wd
  | 0 => wd0
  | i + 1 => plW (smW cs st i) (byW (st.getD i wd0) (nth cs i))
theorem smW_le {cs : List Int} {st : List Wd} {K : Nat} (hs : ∀ i, (st.getD i wd0).1 ≤ K) (hc : ∀ i, (nth cs i).natAbs ≤ 10) : ∀ i, (smW cs st i).1 ≤ i * (K * 10)
  | 0 => Nat.zero_le _
  | i + 1 => by
    have h1 := plW_le (smW cs st i) (byW (st.getD i wd0) (nth cs i))
    have h2 : (byW (st.getD i wd0) (nth cs i)).1 ≤ K * 10 := Nat.mul_le_mul (hs i) (hc i)
    have h3 := smW_le hs hc i
    show (plW (smW cs st i) (byW (st.getD i wd0) (nth cs i))).1 ≤ _
    rw [Nat.add_mul, Nat.one_mul]
    omega

end Go.Proofs.YtfcfmpdpjmbcnaaGreat
