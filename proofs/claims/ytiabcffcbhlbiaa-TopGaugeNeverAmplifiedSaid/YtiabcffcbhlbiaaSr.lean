/- The gain bound bounds responses and runs. Nothing of the program's text. -/
import Derived.Test.YtiabcffcbhlbiaaSx
import Derived.Test.YtiabcffcbhlbiaaSo
set_option linter.unusedVariables false
set_option linter.unusedSimpArgs false
namespace Go.Proofs.Ytiabcffcbhlbiaa
open Go.RowKit
set_option maxRecDepth 20000

theorem sumQ_rev (f : Nat → Rat) : ∀ n, sumQ (fun k => f (n - k)) (n + 1) = sumQ f (n + 1)
  | 0 => rfl
  | n + 1 => by
    have h1 := sumQ_shift (fun k => f (n + 1 - k)) 1 (n + 1)
    have h2 : sumQ (fun i => (fun k => f (n + 1 - k)) (1 + i)) (n + 1) = sumQ (fun k => f (n - k)) (n + 1) := sumQ_congr fun i _ => by
      show f (n + 1 - (1 + i)) = f (n - i)
      rw [show n + 1 - (1 + i) = n - i by omega]
    rw [h2, sumQ_rev f n] at h1
    rw [show n + 1 + 1 = 1 + (n + 1) by omega, h1]
    have h3 : sumQ (fun k => f (n + 1 - k)) 1 = f (n + 1) := by
      show 0 + f (n + 1 - 0) = _
      rw [Rat.zero_add, Nat.sub_zero]
    rw [h3]
    have h4 : sumQ f (1 + (n + 1)) = sumQ f (n + 1) + f (n + 1) := by rw [show 1 + (n + 1) = n + 1 + 1 by omega]; rfl
    rw [h4]
    exact Rat.add_comm _ _
/-- The sum of the sizes of a response's numbers is at most the gain bound. -/
theorem rsp_gain {c : List Rg} {den : Int} (hL : LoopOk c den) {s : Nat} {w : List Int} (hp : PrfOk c.length s w) (hn : nrm c den s w < 1) (T : Nat) : sumQ (fun t => absR (rsp den (losL c) t)) T ≤ gnB den (losL c) w c.length s (nrm c den s w) := by
  have hl1 := hL.l1
  have hwp : ∀ i, i < c.length → 1 ≤ nth w i := fun i hi => (hp.w _ (nth_mem (by have := hp.l; omega))).1
  have hN : 0 ≤ nrm c den s w := nrmR_nonneg _
  have hs : ∀ t, wtR w (rst den (losL c) (t + s)) c.length ≤ nrm c den s w * wtR w (rst den (losL c) t) c.length := fun t => by
    have h1 := stt_norm (c := c) (den := den) hL.d.1 (n := c.length) (s := s) hwp (cs := fun _ => losL c) (fun t _ i hi => by
      rw [losL_nth]
      have := hL.b _ (rg_mem hi)
      exact ⟨Int.le_refl _, this.2.2⟩) (rst den (losL c) t)
    have h2 := stt_rst den (losL c) t s
    rw [losL_len] at h2
    rw [h2] at h1
    exact h1
  have h1 := sum_settle (v := fun t => wtR w (rst den (losL c) t) c.length) (N := nrm c den s w) (s := s) (fun t => wtR_nonneg _ _ _) hN hs T
  have hw0 : (0 : Rat) < ((nth w 0 : Int) : Rat) := by exact_mod_cast (show (0 : Int) < nth w 0 by have := hwp 0 hl1; omega)
  have h2 : sumQ (fun t => absR (rsp den (losL c) t)) T ≤ ((nth w 0 : Int) : Rat) * sumQ (fun t => wtR w (rst den (losL c) t) c.length) T := by
    rw [← sumQ_mul]
    exact sumQ_le fun t _ => le_mul_of_div hw0 (wtR_le w _ hl1)
  unfold gnB gnS
  have hD : (0 : Rat) < 1 - nrm c den s w := by grind
  generalize sumQ (fun t => wtR w (rst den (losL c) t) c.length) T = A at *
  generalize sumQ (fun t => wtR w (rst den (losL c) t) c.length) s = S at *
  generalize nrm c den s w = N at *
  generalize ((nth w 0 : Int) : Rat) = u at *
  generalize sumQ (fun t => absR (rsp den (losL c) t)) T = X at *
  have h3 : A * (1 - N) ≤ S := by grind
  have h4 : u * (A * (1 - N)) ≤ u * S := Rat.mul_le_mul_of_nonneg_left h3 (Rat.le_of_lt hw0)
  have h5 : u * S / (1 - N) * (1 - N) = u * S := by grind
  have h6 : X * (1 - N) ≤ (u * A) * (1 - N) := Rat.mul_le_mul_of_nonneg_right h2 (Rat.le_of_lt hD)
  refine Rat.le_of_mul_le_mul_right (c := 1 - N) ?_ hD
  rw [h5]
  grind
/-- A run from zeros on is a sum of responses. -/
theorem run_conv {c : List Rg} {den : Int} {dz x : List Int} {T : Nat} (hx : ∀ i, nth x i = 0) {t : Nat} (ht : t < T) : vlt den (rpl c T) dz x t = sumQ (fun k => ((nth dz k : Int) : Rat) * rsp den (losL c) (t - k)) (t + 1) :=
  hst_conv (den := den) (c := losL c) (cs := rpl c T) (dz := dz) (x := x) (fun t ht => rep_getD _ _ (by rw [List.length_replicate] at ht; exact ht)) hx (t + 1) (by rw [List.length_replicate]; omega) 0
theorem run_gain {c : List Rg} {den : Int} (hL : LoopOk c den) {s : Nat} {w : List Int} (hp : PrfOk c.length s w) (hn : nrm c den s w < 1) {dz x : List Int} {T M : Nat} (hx : ∀ i, nth x i = 0) (hM : ∀ k, k < T → (nth dz k).natAbs ≤ M) {t : Nat} (ht : t < T) :
    absR (vlt den (rpl c T) dz x t) ≤ gnB den (losL c) w c.length s (nrm c den s w) * (((M : Nat) : Int) : Rat) := by
  rw [run_conv hx ht]
  refine Rat.le_trans (absR_sum _ _) ?_
  have h1 : sumQ (fun k => absR (((nth dz k : Int) : Rat) * rsp den (losL c) (t - k))) (t + 1) ≤ sumQ (fun k => (((M : Nat) : Int) : Rat) * absR (rsp den (losL c) (t - k))) (t + 1) := sumQ_le fun k hk => by
    rw [absR_mul, absR_int]
    refine Rat.mul_le_mul_of_nonneg_right ?_ (absR_nonneg _)
    exact_mod_cast (show ((nth dz k).natAbs : Int) ≤ ((M : Nat) : Int) by have := hM k (by omega); omega)
  refine Rat.le_trans h1 ?_
  rw [sumQ_mul, sumQ_rev (fun j => absR (rsp den (losL c) j)) t]
  have h2 := rsp_gain hL hp hn (t + 1)
  have h3 : (0 : Rat) ≤ (((M : Nat) : Int) : Rat) := by exact_mod_cast (show (0 : Int) ≤ ((M : Nat) : Int) by omega)
  have h4 := Rat.mul_le_mul_of_nonneg_left h2 h3
  grind
/-- The size of a ratio. -/
theorem absR_divInt (r : Rat) : Rat.divInt (r.num.natAbs : Int) (r.den : Int) = absR r := by
  have hd := den_pos r
  unfold absR
  by_cases h : r < 0
  · rw [decide_eq_true h, cond_true]
    have hn : r.num < 0 := Int.not_le.1 fun h2 => absurd h (Rat.not_lt.2 (Rat.num_nonneg.1 h2))
    rw [show ((r.num.natAbs : Nat) : Int) = -r.num by omega, ← Rat.neg_divInt, Rat.num_divInt_den]
  · rw [decide_eq_false h, cond_false]
    have hn : 0 ≤ r.num := Rat.num_nonneg.2 (Rat.not_lt.1 h)
    rw [show ((r.num.natAbs : Nat) : Int) = r.num by omega, Rat.num_divInt_den]
theorem cmpR_le {p q : Rat} (h : p ≤ q) : cmpR p q ≤ 0 := by
  refine Int.not_lt.1 fun h2 => ?_
  have := cmpR_pos.1 h2
  grind
/-- The largest size of the first k numbers. -/
def bigD (l : List Int) : Nat → Nat
  | 0 => 0
  | k + 1 => max (bigD l k) (nth l k).natAbs
theorem bigD_le (l : List Int) : ∀ {n k : Nat}, k < n → (nth l k).natAbs ≤ bigD l n
  | n + 1, k, h => by
    unfold bigD
    by_cases e : k = n
    · subst e; omega
    · have := bigD_le l (n := n) (k := k) (by omega); omega
theorem bigD_bnd {l : List Int} {b : Nat} : ∀ {n : Nat}, (∀ k, k < n → (nth l k).natAbs ≤ b) → bigD l n ≤ b
  | 0, _ => Nat.zero_le _
  | n + 1, h => by
    unfold bigD
    have h1 := bigD_bnd (n := n) fun k hk => h k (by omega)
    have h2 := h n (by omega)
    omega
theorem absR_S {r : Rat} {k : Nat} (h : RatS k r) : RatS k (absR r) := by
  unfold absR
  cases decide (r < 0)
  · exact h
  · refine ⟨?_, ?_⟩
    · show wlen (-r).num ≤ k
      rw [Rat.neg_num]
      have := h.1
      unfold wlen at this ⊢
      rw [Int.natAbs_neg]; exact this
    · exact h.2
/-- The ratio of a small fraction's size. -/
theorem ofSize_q (r : Rat) (h : smQ r = true) : AC Try.prog 25 [I (r.num.natAbs : Int), I (r.den : Int)] (ratV (absR r)) := by
  obtain ⟨h1, h2⟩ := smQ_bnd h
  have hd := den_pos r
  have w := ratioOf_A (r.num.natAbs : Int) (r.den : Int) ⟨by omega, by omega⟩ ⟨by omega, by omega⟩ (by omega)
  rw [absR_divInt] at w
  exact w
theorem sizeN_q (r : Rat) (h : smQ r = true) : AC Try.prog 12 [I r.num] (I (r.num.natAbs : Int)) := by
  obtain ⟨h1, h2⟩ := smQ_bnd h
  exact bsize_A _ ⟨by omega, by omega⟩

end Go.Proofs.Ytiabcffcbhlbiaa
