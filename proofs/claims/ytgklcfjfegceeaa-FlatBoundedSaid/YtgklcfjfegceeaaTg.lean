/- The law FlatBounded: what it answers. -/
import Derived.Test.YtgklcfjfegceeaaTf
import Derived.Test.YtgklcfjfegceeaaTk
set_option linter.unusedVariables false
set_option linter.unusedSimpArgs false
namespace Go.Proofs.Ytgklcfjfegceeaa
open Go.RowKit
set_option maxRecDepth 20000
set_option maxHeartbeats 8000000

theorem getD_cons_succ (a : Act3) (A : List Act3) (i : Nat) : (a :: A).getD (i + 1) a0 = A.getD i a0 := rfl
/-- Settings within their ranges are among all settings, and the other way round. -/
theorem InS_iff : ∀ (A : List Act3) (xs : List Int), InS A xs ↔ xs.length = A.length ∧ ∀ k, k < A.length → (A.getD k a0).lo ≤ nth xs k ∧ nth xs k ≤ (A.getD k a0).hi
  | [], [] => by simp [InS]
  | [], x :: xs => by simp [InS]
  | a :: A, [] => by simp [InS]
  | a :: A, x :: xs => by
    have ih := InS_iff A xs
    constructor
    · rintro ⟨h1, h2⟩
      obtain ⟨h3, h4⟩ := ih.1 h2
      refine ⟨by simp [h3], fun k hk => ?_⟩
      cases k with
      | zero => exact h1
      | succ k => exact h4 k (by simpa using hk)
    · rintro ⟨h1, h2⟩
      refine ⟨h2 0 (by simp), ih.2 ⟨by simpa using h1, fun k hk => h2 (k + 1) (by simpa using hk)⟩⟩
theorem outTo_false {A : List Act3} {xs : List Int} : ∀ n, (∀ k, k < n → inR (nth xs k) (A.getD k a0).lo (A.getD k a0).hi = true) → outTo A xs n = false
  | 0, _ => rfl
  | n + 1, h => by
    show (outTo A xs n || !inR (nth xs n) (A.getD n a0).lo (A.getD n a0).hi) = false
    rw [outTo_false n fun k hk => h k (by omega), h n (by omega)]; rfl
theorem setE_iff {A : List Act3} {xs : List Int} : setE A xs = 0 ↔ xs ∈ allS A := by
  rw [mem_allS, InS_iff]
  constructor
  · exact setE_ok
  · rintro ⟨h1, h2⟩
    rw [setE_out (by omega), outTo_false _ fun k hk => inR_iff.2 (h2 k hk)]; rfl

/-! Twice as great weights. -/
def dbl (w : List Int) (k : Nat) : Int := 2 * nth w k
theorem dbl_nth {w : List Int} {k : Nat} (h : k < w.length) : nth (lst (dbl w) w.length) k = 2 * nth w k := lst_nth _ h
theorem dbl_len (w : List Int) : (lst (dbl w) w.length).length = w.length := lst_length _ _
theorem numT_dbl (E w : List Int) : ∀ k, k ≤ w.length → numT E (lst (dbl w) w.length) k = 2 * numT E w k
  | 0, _ => rfl
  | k + 1, hk => by
    show numT E _ k + nth _ k * nth E k = 2 * (numT E w k + nth w k * nth E k)
    rw [numT_dbl E w k (by omega), dbl_nth (by omega), Int.mul_assoc]
    omega
theorem denT_dbl (w : List Int) : ∀ k, k ≤ w.length → denT (lst (dbl w) w.length) k = 2 * denT w k
  | 0, _ => rfl
  | k + 1, hk => by
    show denT _ k + (nth _ k).natAbs = 2 * (denT w k + (nth w k).natAbs)
    rw [denT_dbl w k (by omega), dbl_nth (by omega)]
    omega
theorem max_dbl (a b c : Int) : max (2 * a * b) (2 * a * c) = 2 * max (a * b) (a * c) := by
  rw [Int.mul_assoc, Int.mul_assoc]; omega
theorem num2_dbl (A : List Act3) (w : List Int) (n : Int) : ∀ k, num2 (2 * n) A (lst (dbl w) w.length) k = 2 * num2 n A w k
  | 0 => rfl
  | k + 1 => by
    show num2 (2 * n) A _ k - max (numT _ _ (lst (dbl w) w.length).length * _) (numT _ _ (lst (dbl w) w.length).length * _) = 2 * (num2 n A w k - max (numT _ w w.length * _) (numT _ w w.length * _))
    rw [num2_dbl A w n k, dbl_len, numT_dbl _ _ _ (Nat.le_refl _), max_dbl]
    omega
theorem low_dbl (n : Int) {d : Int} (h : 0 < d) : low (2 * n) (2 * d) = low n d := by
  have hg : Int.gcd (2 * n) (2 * d) = 2 * Int.gcd n d := Int.gcd_mul_left 2 n d
  have hp := Int.gcd_pos_of_ne_zero_right n (b := d) (by omega)
  show ((2 * n).tdiv (Int.gcd (2 * n) (2 * d)), 2 * d / (Int.gcd (2 * n) (2 * d))) = (n.tdiv (Int.gcd n d), d / (Int.gcd n d))
  rw [hg]
  have e : ((2 * Int.gcd n d : Nat) : Int) = 2 * (Int.gcd n d : Int) := by omega
  rw [e, Int.mul_tdiv_mul_of_pos _ _ (by decide), Int.mul_ediv_mul_of_pos _ _ (by decide)]
theorem bndW_dbl {T : List Int} {A : List Act3} {w : List Int} (h : 0 < denT w w.length) : bndW T A (lst (dbl w) w.length) = bndW T A w := by
  unfold bndW
  rw [dbl_len, numT_dbl _ _ _ (Nat.le_refl _), denT_dbl _ _ (Nat.le_refl _), num2_dbl]
  unfold frc
  rw [low_dbl _ h]
theorem any_lst {f : Int → Bool} {w : List Int} : (w.any f) = (List.range w.length).any fun k => f (nth w k) := by
  conv => lhs; rw [← lst_of w]
  unfold lst
  rw [List.any_map]; rfl
theorem any_dbl {f g : Int → Bool} {w : List Int} (h : ∀ k, k < w.length → f (2 * nth w k) = g (nth w k)) : (lst (dbl w) w.length).any f = w.any g := by
  rw [any_lst, any_lst, dbl_len]
  rw [Bool.eq_iff_iff, List.any_eq_true, List.any_eq_true]
  constructor
  · rintro ⟨k, hk, h2⟩
    have hk' := List.mem_range.1 hk
    rw [dbl_nth hk', h k hk'] at h2
    exact ⟨k, hk, h2⟩
  · rintro ⟨k, hk, h2⟩
    have hk' := List.mem_range.1 hk
    rw [← h k hk', ← dbl_nth hk'] at h2
    exact ⟨k, hk, h2⟩
theorem bndR_dbl {T : List Int} {A : List Act3} {w : List Int} (hb : ∀ k, k < w.length → -400 ≤ nth w k ∧ nth w k ≤ 400) : bndR T A (lst (dbl w) w.length) = bndR T A w := by
  have e1 : outW (lst (dbl w) w.length) = outW w := any_dbl fun k hk => by
    have := hb k hk
    rw [inR_iff.2 ⟨by omega, by omega⟩, inR_iff.2 ⟨by omega, by omega⟩]
  have e2 : nzW (lst (dbl w) w.length) = nzW w := any_dbl fun k hk => by
    congr 1
    exact decide_eq_decide.2 (by omega)
  have e3 : bndE 0 T (lst (dbl w) w.length) = bndE 0 T w := by unfold bndE; rw [e1, e2, dbl_len]
  by_cases he : bndE 0 T w = 0
  · rw [bndR_0 he, bndR_0 (e3.trans he), bndW_dbl (bndE_ok he).2.1]
  · rw [bndR_e rfl he, bndR_e e3 he]

/-! No settings are better than the bound. -/
theorem low_mul {n d : Int} (h : 0 < d) : 0 < (Int.gcd n d : Int) ∧ n = (Int.gcd n d : Int) * (low n d).1 ∧ d = (Int.gcd n d : Int) * (low n d).2 := by
  have hp := Int.gcd_pos_of_ne_zero_right n (b := d) (by omega)
  refine ⟨by omega, ?_, ?_⟩
  · exact (Int.mul_tdiv_cancel' (Int.gcd_dvd_left ..)).symm
  · exact (Int.mul_ediv_cancel' (Int.gcd_dvd_right ..)).symm
theorem low_lowP {n d : Int} (h : 0 < d) : lowP (low n d) = true := by
  obtain ⟨h1, h2, h3⟩ := low_mul (n := n) h
  have hg : Int.gcd (low n d).1 (low n d).2 = 1 := by
    have := Int.gcd_mul_left (Int.gcd n d : Int) (low n d).1 (low n d).2
    rw [← h2, ← h3] at this
    have e : (Int.gcd n d : Int).natAbs = Int.gcd n d := by omega
    rw [e] at this
    have h4 : 0 < Int.gcd n d := by omega
    exact Nat.eq_of_mul_eq_mul_left h4 (by rw [← this, Nat.mul_one])
  unfold lowP
  rw [hg, decide_eq_true (low_pos h)]; rfl
/-- The weighted sum of deviations with the first j actuators. -/
def wdev (T : List Int) (A : List Act3) (xs w : List Int) (j : Nat) : Nat → Int
  | 0 => 0
  | k + 1 => wdev T A xs w j k + nth w k * devTo T A xs k j
theorem wdev_zero (T : List Int) (A : List Act3) (xs w : List Int) : ∀ k, wdev T A xs w 0 k = numT T w k
  | 0 => rfl
  | k + 1 => by unfold wdev numT; rw [wdev_zero T A xs w k]; rfl
theorem wdev_succ (T : List Int) (A : List Act3) (xs w : List Int) (j : Nat) : ∀ k, wdev T A xs w (j + 1) k = wdev T A xs w j k - nth xs j * numT (A.getD j a0).eff w k
  | 0 => by simp [wdev, numT]
  | k + 1 => by
    show wdev T A xs w (j + 1) k + nth w k * (devTo T A xs k j - nth xs j * nth (A.getD j a0).eff k) = wdev T A xs w j k + nth w k * devTo T A xs k j - nth xs j * (numT (A.getD j a0).eff w k + nth w k * nth (A.getD j a0).eff k)
    rw [wdev_succ T A xs w j k]
    grind
theorem mul_le_max {s c lo hi : Int} (h1 : lo ≤ s) (h2 : s ≤ hi) : s * c ≤ max (c * lo) (c * hi) := by
  rw [Int.mul_comm s c]
  by_cases hc : 0 ≤ c
  · have := Int.mul_le_mul_of_nonneg_left h2 hc; omega
  · have := Int.mul_le_mul_of_nonpos_left (a := c) (by omega) h1; omega
theorem num2_le {T : List Int} {A : List Act3} {xs w : List Int} (hx : ∀ k, k < A.length → (A.getD k a0).lo ≤ nth xs k ∧ nth xs k ≤ (A.getD k a0).hi) : ∀ j, j ≤ A.length → num2 (numT T w w.length) A w j ≤ wdev T A xs w j w.length
  | 0, _ => by rw [wdev_zero]; exact Int.le_refl _
  | j + 1, hj => by
    have h1 := num2_le hx (T := T) (w := w) j (by omega)
    have h2 := hx j (by omega)
    have h3 := mul_le_max (c := numT (A.getD j a0).eff w w.length) h2.1 h2.2
    rw [wdev_succ]
    show num2 (numT T w w.length) A w j - _ ≤ _
    omega
theorem wdev_le {T : List Int} {A : List Act3} {xs w : List Int} {m : Int} (hm : ∀ k, k < w.length → ((devP T A xs k).natAbs : Int) ≤ m) : ∀ k, k ≤ w.length → wdev T A xs w A.length k ≤ m * denT w k
  | 0, _ => by simp [wdev, denT]
  | k + 1, hk => by
    have h1 := wdev_le hm k (by omega)
    have h2 := hm k (by omega)
    have h3 : nth w k * devP T A xs k ≤ ((nth w k).natAbs : Int) * m := by
      have e1 : nth w k * devP T A xs k ≤ ((nth w k * devP T A xs k).natAbs : Int) := by omega
      rw [Int.natAbs_mul] at e1
      have e2 : ((nth w k).natAbs : Int) * ((devP T A xs k).natAbs : Int) ≤ ((nth w k).natAbs : Int) * m := Int.mul_le_mul_of_nonneg_left h2 (by omega)
      have e3 : (((nth w k).natAbs * (devP T A xs k).natAbs : Nat) : Int) = ((nth w k).natAbs : Int) * ((devP T A xs k).natAbs : Int) := Int.natCast_mul _ _
      omega
    show wdev T A xs w A.length k + nth w k * devP T A xs k ≤ m * (denT w k + (nth w k).natAbs)
    rw [Int.mul_add, Int.mul_comm m ((nth w k).natAbs : Int)]
    omega
theorem maxTo_ge (T : List Int) (A : List Act3) (xs : List Int) : ∀ n k, k < n → ((devP T A xs k).natAbs : Int) ≤ maxTo T A xs n
  | 0, k, h => by omega
  | n + 1, k, h => by
    unfold maxTo
    by_cases e : k = n
    · subst e; omega
    · have := maxTo_ge T A xs n k (by omega); omega
theorem bound_le {T : List Int} {A : List Act3} {w xs : List Int} (hw : w.length = T.length) (hz : 0 < denT w w.length) (hx : ∀ k, k < A.length → (A.getD k a0).lo ≤ nth xs k ∧ nth xs k ≤ (A.getD k a0).hi) :
    (low (num2 (numT T w w.length) A w A.length) (denT w w.length)).1 * 1 - maxP T A xs * (low (num2 (numT T w w.length) A w A.length) (denT w w.length)).2 ≤ 0 := by
  have h1 := num2_le hx (T := T) (w := w) A.length (Nat.le_refl _)
  have h2 := wdev_le (T := T) (A := A) (xs := xs) (w := w) (m := maxP T A xs) (fun k hk => maxTo_ge T A xs T.length k (by omega)) w.length (Nat.le_refl _)
  obtain ⟨g1, g2, g3⟩ := low_mul (n := num2 (numT T w w.length) A w A.length) hz
  generalize low (num2 (numT T w w.length) A w A.length) (denT w w.length) = f at *
  generalize (Int.gcd (num2 (numT T w w.length) A w A.length) (denT w w.length) : Int) = g at *
  generalize maxP T A xs = m at *
  have h3 : g * f.1 ≤ g * (m * f.2) := by
    have e : g * (m * f.2) = m * (g * f.2) := by rw [Int.mul_left_comm]
    rw [e, ← g2, ← g3]; omega
  have h4 := Int.le_of_mul_le_mul_left h3 g1
  omega
theorem flatBounded_A (T : List Int) (A : List Act3) (w xs : List Int) (hmw : w.length ≤ 140737488355328) : AC Try.prog 10 [rulV T A, isl w, isl xs] (B true) := by
  have aw := awake_A
  have hf := few_A T A
  cases hq : fewP T A
  · rw [hq] at hf
    refine ac_body Try.func10 rfl (by kernel_rfl) fun w0 ok => ?_; show AWp _ (ctx0 w0 ok _) _ (ARet _ _ _) (entry _)
    (repeat' (first | (with_reducible first | intro hg | refine awp_seq ?_ | refine q_seq ?_ | refine q_blk ?_ | refine awp_block ?_ | refine awp_skip ?_ | refine awp_ret ?_ | refine awp_exit ?_ | refine q_seqE ?_ | refine q_seqR ?_ | refine q_blkR ?_ | refine q_blkE ?_) | ((with_reducible refine awp_region ?_ ?_); (focus exact kr)) | ((with_reducible refine awp_region_any mixed ?_ ?_); (focus exact kr)) | ((with_reducible apply awp_condT); (focus exact rfl); (focus exact tt)) | ((with_reducible apply awp_condF); (focus exact rfl); (focus exact ff)) | ((with_reducible apply awp_condD); (focus exact rfl)) | ((with_reducible apply awp_condN); (focus exact rfl)) | ((with_reducible apply awp_cond); (focus exact rfl)) | ((with_reducible refine q_blkX ?_ ?_); (focus exact rfl)) | ((with_reducible refine r_nil (And.intro ?_ ?_)); (focus exact kr)) | (with_reducible refine r_nil ?_) | ((with_reducible apply r_put); (focus (first | exact dp | exact oc rfl (aw) | exact oc rfl (hf)))) | ((with_reducible apply r_new); (focus exact dn)) | ((with_reducible apply r_app); (focus exact da)) | ((with_reducible apply r_set); (focus exact ds)) | ((with_reducible apply r_putY); (focus exact rfl); (focus exact rfl); (focus exact tf); (focus (first | exact dp | exact oc rfl (aw) | exact oc rfl (hf)))) | ((with_reducible apply r_newY); (focus exact rfl); (focus exact rfl); (focus exact tf); (focus exact dn)) | ((with_reducible apply r_noT); (focus exact rfl); (focus exact rfl); (focus exact ff)) | ((with_reducible apply r_noF); (focus exact rfl); (focus exact rfl); (focus exact tt)) | ((with_reducible apply r_noU); (focus exact rfl); (focus exact rfl)) | ((with_reducible apply r_splitD); (focus exact rfl); (focus exact rfl)) | ((with_reducible apply r_split); (focus exact rfl); (focus exact rfl))))
    ((with_reducible first | apply q_retR | apply q_retN); (focus exact rl))
    rfl
  rw [hq] at hf
  have hfo := fewP_ok hq
  have hlo := hfo.len
  have hcr := hfo.copy
  have hre := rulesErr_A T A hlo
  by_cases he : (rulE T A).2 = 0
  rotate_left
  · refine ac_body Try.func10 rfl (by kernel_rfl) fun w0 ok => ?_; show AWp _ (ctx0 w0 ok _) _ (ARet _ _ _) (entry _)
    (repeat' (first | (with_reducible first | intro hg | refine awp_seq ?_ | refine q_seq ?_ | refine q_blk ?_ | refine awp_block ?_ | refine awp_skip ?_ | refine awp_ret ?_ | refine awp_exit ?_ | refine q_seqE ?_ | refine q_seqR ?_ | refine q_blkR ?_ | refine q_blkE ?_) | ((with_reducible refine awp_region ?_ ?_); (focus exact kr)) | ((with_reducible refine awp_region_any mixed ?_ ?_); (focus exact kr)) | ((with_reducible apply awp_condT); (focus exact rfl); (focus exact tt)) | ((with_reducible apply awp_condF); (focus exact rfl); (focus exact ff)) | ((with_reducible apply awp_condD); (focus exact rfl)) | ((with_reducible apply awp_condN); (focus exact rfl)) | ((with_reducible apply awp_cond); (focus exact rfl)) | ((with_reducible refine q_blkX ?_ ?_); (focus exact rfl)) | ((with_reducible refine r_nil (And.intro ?_ ?_)); (focus exact kr)) | (with_reducible refine r_nil ?_) | ((with_reducible apply r_put); (focus (first | exact dp | exact oc rfl (aw) | exact oc rfl (hf) | exact oc rfl (hre)))) | ((with_reducible apply r_new); (focus exact dn)) | ((with_reducible apply r_app); (focus exact da)) | ((with_reducible apply r_set); (focus exact ds)) | ((with_reducible apply r_putY); (focus exact rfl); (focus exact rfl); (focus exact tf); (focus (first | exact dp | exact oc rfl (aw) | exact oc rfl (hf) | exact oc rfl (hre)))) | ((with_reducible apply r_newY); (focus exact rfl); (focus exact rfl); (focus exact tf); (focus exact dn)) | ((with_reducible apply r_noT); (focus exact rfl); (focus exact rfl); (focus exact ff)) | ((with_reducible apply r_noF); (focus exact rfl); (focus exact rfl); (focus exact tt)) | ((with_reducible apply r_noU); (focus exact rfl); (focus exact rfl)) | ((with_reducible apply r_splitD); (focus exact rfl); (focus exact rfl)) | ((with_reducible apply r_split); (focus exact rfl); (focus exact rfl))))
    ((with_reducible first | apply q_retR | apply q_retN); (focus exact rl))
    rfl
  obtain ⟨h00, hok⟩ := rulE_ok he
  rw [he] at hre
  by_cases hwl : (w.length : Int) = T.length
  rotate_left
  · refine ac_body Try.func10 rfl (by kernel_rfl) fun w0 ok => ?_; show AWp _ (ctx0 w0 ok _) _ (ARet _ _ _) (entry _)
    (repeat' (first | (with_reducible first | intro hg | refine awp_seq ?_ | refine q_seq ?_ | refine q_blk ?_ | refine awp_block ?_ | refine awp_skip ?_ | refine awp_ret ?_ | refine awp_exit ?_ | refine q_seqE ?_ | refine q_seqR ?_ | refine q_blkR ?_ | refine q_blkE ?_) | ((with_reducible refine awp_region ?_ ?_); (focus exact kr)) | ((with_reducible refine awp_region_any mixed ?_ ?_); (focus exact kr)) | ((with_reducible apply awp_condT); (focus exact rfl); (focus exact tt)) | ((with_reducible apply awp_condF); (focus exact rfl); (focus exact ff)) | ((with_reducible apply awp_condD); (focus exact rfl)) | ((with_reducible apply awp_condN); (focus exact rfl)) | ((with_reducible apply awp_cond); (focus exact rfl)) | ((with_reducible refine q_blkX ?_ ?_); (focus exact rfl)) | ((with_reducible refine r_nil (And.intro ?_ ?_)); (focus exact kr)) | (with_reducible refine r_nil ?_) | ((with_reducible apply r_put); (focus (first | exact dp | exact oc rfl (aw) | exact oc rfl (hf) | exact oc rfl (hre)))) | ((with_reducible apply r_new); (focus exact dn)) | ((with_reducible apply r_app); (focus exact da)) | ((with_reducible apply r_set); (focus exact ds)) | ((with_reducible apply r_putY); (focus exact rfl); (focus exact rfl); (focus exact tf); (focus (first | exact dp | exact oc rfl (aw) | exact oc rfl (hf) | exact oc rfl (hre)))) | ((with_reducible apply r_newY); (focus exact rfl); (focus exact rfl); (focus exact tf); (focus exact dn)) | ((with_reducible apply r_noT); (focus exact rfl); (focus exact rfl); (focus exact ff)) | ((with_reducible apply r_noF); (focus exact rfl); (focus exact rfl); (focus exact tt)) | ((with_reducible apply r_noU); (focus exact rfl); (focus exact rfl)) | ((with_reducible apply r_splitD); (focus exact rfl); (focus exact rfl)) | ((with_reducible apply r_split); (focus exact rfl); (focus exact rfl))))
    ((with_reducible first | apply q_retR | apply q_retN); (focus exact rl))
    rfl
  have hs := short_A xs
  by_cases hl : (xs.length : Int) ≤ 12
  rotate_left
  · rw [decide_eq_false hl] at hs
    refine ac_body Try.func10 rfl (by kernel_rfl) fun w0 ok => ?_; show AWp _ (ctx0 w0 ok _) _ (ARet _ _ _) (entry _)
    (repeat' (first | (with_reducible first | intro hg | refine awp_seq ?_ | refine q_seq ?_ | refine q_blk ?_ | refine awp_block ?_ | refine awp_skip ?_ | refine awp_ret ?_ | refine awp_exit ?_ | refine q_seqE ?_ | refine q_seqR ?_ | refine q_blkR ?_ | refine q_blkE ?_) | ((with_reducible refine awp_region ?_ ?_); (focus exact kr)) | ((with_reducible refine awp_region_any mixed ?_ ?_); (focus exact kr)) | ((with_reducible apply awp_condT); (focus exact rfl); (focus exact tt)) | ((with_reducible apply awp_condF); (focus exact rfl); (focus exact ff)) | ((with_reducible apply awp_condD); (focus exact rfl)) | ((with_reducible apply awp_condN); (focus exact rfl)) | ((with_reducible apply awp_cond); (focus exact rfl)) | ((with_reducible refine q_blkX ?_ ?_); (focus exact rfl)) | ((with_reducible refine r_nil (And.intro ?_ ?_)); (focus exact kr)) | (with_reducible refine r_nil ?_) | ((with_reducible apply r_put); (focus (first | exact dp | exact oc rfl (aw) | exact oc rfl (hf) | exact oc rfl (hre) | exact oc rfl (hs)))) | ((with_reducible apply r_new); (focus exact dn)) | ((with_reducible apply r_app); (focus exact da)) | ((with_reducible apply r_set); (focus exact ds)) | ((with_reducible apply r_putY); (focus exact rfl); (focus exact rfl); (focus exact tf); (focus (first | exact dp | exact oc rfl (aw) | exact oc rfl (hf) | exact oc rfl (hre) | exact oc rfl (hs)))) | ((with_reducible apply r_newY); (focus exact rfl); (focus exact rfl); (focus exact tf); (focus exact dn)) | ((with_reducible apply r_noT); (focus exact rfl); (focus exact rfl); (focus exact ff)) | ((with_reducible apply r_noF); (focus exact rfl); (focus exact rfl); (focus exact tt)) | ((with_reducible apply r_noU); (focus exact rfl); (focus exact rfl)) | ((with_reducible apply r_splitD); (focus exact rfl); (focus exact rfl)) | ((with_reducible apply r_split); (focus exact rfl); (focus exact rfl))))
    ((with_reducible first | apply q_retR | apply q_retN); (focus exact rl))
    rfl
  rw [decide_eq_true hl] at hs
  have ht9 := hok.t9
  have hcx := copyInts_A xs (by omega)
  have hcw := copyInts_A w (by omega)
  have g1 := best_ok T A hok h00
  obtain ⟨bm, be, bl⟩ := bestS_ok hok
  have hse := setE_iff.2 bm
  have hso := (allS_ok hok).ok _ bm
  have hbl : (bestS T A).1.length ≤ 3 := by have := hso.1; have := hok.a3; omega
  have hcb := copyInts_A (bestS T A).1 (by omega)
  have g2 := maximumOf_A T A (bestS T A).1 hok hso (by rw [rsE_s he]; exact hse)
  rw [← be] at g2
  have hn0 := maxTo_bnd hok hso T.length (Nat.le_refl _)
  have hn1 : 0 ≤ (bestS T A).2 ∧ (bestS T A).2 ≤ 130000 := by rw [be]; exact hn0
  have hrx := rsE_s (xs := xs) he
  have hown : ∃ v e, AC Try.prog 49 [rulV T A, isl xs] (.tuple [I v, I e]) ∧ (e ≠ 0 ∨ e = 0 ∧ (bestS T A).2 ≤ v) := by
    by_cases hx : setE A xs = 0
    · exact ⟨_, _, maximumOf_A T A xs hok (setE_SetOk hok hx) (by rw [hrx]; exact hx), .inr ⟨rfl, bl _ (setE_iff.1 hx)⟩⟩
    · exact ⟨_, _, maximumOf_err T A xs hlo (by rw [hrx]; exact hx), .inl (by rw [hrx]; exact hx)⟩
  obtain ⟨v, e, g3, hve⟩ := hown
  have hbx : ∀ k, k < A.length → (A.getD k a0).lo ≤ nth (bestS T A).1 k ∧ nth (bestS T A).1 k ≤ (A.getD k a0).hi := (setE_ok hse).2
  generalize hy : bestS T A = y at *
  have g4 := boundOf_A T A w hok h00 (by omega)
  have g5 := boundOf_A T A (lst (dbl w) w.length) hok h00 (by rw [dbl_len]; omega)
  refine ac_body Try.func10 rfl (by kernel_rfl) fun w0 ok => ?_; show AWp _ (ctx0 w0 ok _) _ (ARet _ _ _) (entry _)
  by_cases he0 : e = 0
  · have hv : y.2 ≤ v := by omega
    subst he0
    (repeat' (first | (with_reducible first | intro hg | refine awp_seq ?_ | refine q_seq ?_ | refine q_blk ?_ | refine awp_block ?_ | refine awp_skip ?_ | refine awp_ret ?_ | refine awp_exit ?_ | refine q_seqE ?_ | refine q_seqR ?_ | refine q_blkR ?_ | refine q_blkE ?_) | ((with_reducible refine awp_region ?_ ?_); (focus exact kr)) | ((with_reducible refine awp_region_any mixed ?_ ?_); (focus exact kr)) | ((with_reducible apply awp_condT); (focus exact rfl); (focus exact tt)) | ((with_reducible apply awp_condF); (focus exact rfl); (focus exact ff)) | ((with_reducible apply awp_condD); (focus exact rfl)) | ((with_reducible apply awp_condN); (focus exact rfl)) | ((with_reducible apply awp_cond); (focus exact rfl)) | ((with_reducible refine q_blkX ?_ ?_); (focus exact rfl)) | ((with_reducible refine r_nil (And.intro ?_ ?_)); (focus exact kr)) | (with_reducible refine r_nil ?_) | ((with_reducible apply r_put); (focus (first | exact dp | exact oc rfl (aw) | exact oc rfl (hf) | exact oc rfl (hre) | exact oc rfl (hs) | exact oc rfl (hcr) | exact oc rfl (hcx) | exact oc rfl (hcb) | exact oc rfl (g1) | exact oc rfl (g2) | exact oc rfl (g3)))) | ((with_reducible apply r_new); (focus exact dn)) | ((with_reducible apply r_app); (focus exact da)) | ((with_reducible apply r_set); (focus exact ds)) | ((with_reducible apply r_putY); (focus exact rfl); (focus exact rfl); (focus exact tf); (focus (first | exact dp | exact oc rfl (aw) | exact oc rfl (hf) | exact oc rfl (hre) | exact oc rfl (hs) | exact oc rfl (hcr) | exact oc rfl (hcx) | exact oc rfl (hcb) | exact oc rfl (g1) | exact oc rfl (g2) | exact oc rfl (g3)))) | ((with_reducible apply r_newY); (focus exact rfl); (focus exact rfl); (focus exact tf); (focus exact dn)) | ((with_reducible apply r_noT); (focus exact rfl); (focus exact rfl); (focus exact ff)) | ((with_reducible apply r_noF); (focus exact rfl); (focus exact rfl); (focus exact tt)) | ((with_reducible apply r_noU); (focus exact rfl); (focus exact rfl)) | ((with_reducible apply r_splitD); (focus exact rfl); (focus exact rfl)) | ((with_reducible apply r_split); (focus exact rfl); (focus exact rfl))))
    refine awp_loopL (α := Nat) (fun k => [(1, .d (isl w)), (3, .ptr 3 0), (8, .d (I y.2)), (14, ownS 107 k), (15, .d (I k))]) (fun k => (3, ⟨25, rulC T A⟩) :: ownM 107 3 (ivs (lst (dbl w) k)) k) (fun k => k ≤ w.length ∧ ∀ i, i < k → -400 ≤ nth w i ∧ nth w i ≤ 400) (fun k => w.length - k) 0 ⟨Nat.zero_le _, fun i h => absurd h (by omega)⟩ (And.intro rfl (And.intro rfl (And.intro rfl (And.intro rfl (And.intro rfl trivial))))) (And.intro rfl trivial) fun k ⟨hk, hJ⟩ => ?_
    clear g1 g2 g3 hcx hcb hs aw hf hre
    by_cases hlt : k < w.length
    · have hw := bwithin_A (nth w k) (-400) 400
      cases hq4 : inR (nth w k) (-400) 400
      · rw [hq4] at hw
        (repeat' (first | (with_reducible first | intro hg | refine awp_seq ?_ | refine q_seq ?_ | refine q_blk ?_ | refine awp_block ?_ | refine awp_skip ?_ | refine awp_ret ?_ | refine awp_exit ?_ | refine q_seqE ?_ | refine q_seqR ?_ | refine q_blkR ?_ | refine q_blkE ?_) | ((with_reducible refine awp_region ?_ ?_); (focus exact kr)) | ((with_reducible refine awp_region_any mixed ?_ ?_); (focus exact kr)) | ((with_reducible apply awp_condT); (focus exact rfl); (focus exact tt)) | ((with_reducible apply awp_condF); (focus exact rfl); (focus exact ff)) | ((with_reducible apply awp_condD); (focus exact rfl)) | ((with_reducible apply awp_condN); (focus exact rfl)) | ((with_reducible apply awp_cond); (focus exact rfl)) | ((with_reducible refine q_blkX ?_ ?_); (focus exact rfl)) | ((with_reducible refine r_nil (And.intro ?_ ?_)); (focus exact kr)) | (with_reducible refine r_nil ?_) | ((with_reducible apply r_put); (focus (first | exact o_indexI (j := k) (xs := w) rfl rfl (by omega) rfl | exact dp | exact oc rfl (hw)))) | ((with_reducible apply r_new); (focus exact dn)) | ((with_reducible apply r_app); (focus exact da)) | ((with_reducible apply r_set); (focus exact ds)) | ((with_reducible apply r_putY); (focus exact rfl); (focus exact rfl); (focus exact tf); (focus (first | exact o_indexI (j := k) (xs := w) rfl rfl (by omega) rfl | exact dp | exact oc rfl (hw)))) | ((with_reducible apply r_newY); (focus exact rfl); (focus exact rfl); (focus exact tf); (focus exact dn)) | ((with_reducible apply r_noT); (focus exact rfl); (focus exact rfl); (focus exact ff)) | ((with_reducible apply r_noF); (focus exact rfl); (focus exact rfl); (focus exact tt)) | ((with_reducible apply r_noU); (focus exact rfl); (focus exact rfl)) | ((with_reducible apply r_splitD); (focus exact rfl); (focus exact rfl)) | ((with_reducible apply r_split); (focus exact rfl); (focus exact rfl))))
        ((with_reducible first | apply q_retR | apply q_retN); (focus exact rl))
        rfl
      rw [hq4] at hw
      have j4 := inR_iff.1 hq4
      have hsn := blk_snoc 3 (dbl w) k (v := 2 * nth w k) rfl
      have hJ' : ∀ i, i < k + 1 → -400 ≤ nth w i ∧ nth w i ≤ 400 := fun i hi => by
        by_cases e : i = k
        · rw [e]; exact j4
        · exact hJ i (by omega)
      rcases k with _ | k
      · (repeat' (first | (with_reducible first | intro hg | refine awp_seq ?_ | refine q_seq ?_ | refine q_blk ?_ | refine awp_block ?_ | refine awp_skip ?_ | refine awp_ret ?_ | refine awp_exit ?_ | refine q_seqE ?_ | refine q_seqR ?_ | refine q_blkR ?_ | refine q_blkE ?_) | ((with_reducible refine awp_region ?_ ?_); (focus exact kr)) | ((with_reducible refine awp_region_any mixed ?_ ?_); (focus exact kr)) | ((with_reducible apply awp_condT); (focus exact rfl); (focus exact tt)) | ((with_reducible apply awp_condF); (focus exact rfl); (focus exact ff)) | ((with_reducible apply awp_condD); (focus exact rfl)) | ((with_reducible apply awp_condN); (focus exact rfl)) | ((with_reducible apply awp_cond); (focus exact rfl)) | ((with_reducible refine q_blkX ?_ ?_); (focus exact rfl)) | ((with_reducible refine r_nil (And.intro ?_ ?_)); (focus exact kr)) | (with_reducible refine r_nil ?_) | ((with_reducible apply r_put); (focus (first | exact o_indexI (j := 0) (xs := w) rfl rfl (by omega) rfl | exact dp | exact oc rfl (hw)))) | ((with_reducible apply r_new); (focus exact dn)) | ((with_reducible apply r_app); (focus exact da)) | ((with_reducible apply r_set); (focus exact ds)) | ((with_reducible apply r_putY); (focus exact rfl); (focus exact rfl); (focus exact tf); (focus (first | exact o_indexI (j := 0) (xs := w) rfl rfl (by omega) rfl | exact dp | exact oc rfl (hw)))) | ((with_reducible apply r_newY); (focus exact rfl); (focus exact rfl); (focus exact tf); (focus exact dn)) | ((with_reducible apply r_noT); (focus exact rfl); (focus exact rfl); (focus exact ff)) | ((with_reducible apply r_noF); (focus exact rfl); (focus exact rfl); (focus exact tt)) | ((with_reducible apply r_noU); (focus exact rfl); (focus exact rfl)) | ((with_reducible apply r_splitD); (focus exact rfl); (focus exact rfl)) | ((with_reducible apply r_split); (focus exact rfl); (focus exact rfl))))
        exact ⟨1, ⟨hlt, hJ'⟩, by omega, (And.intro rfl (And.intro rfl (And.intro rfl (And.intro rfl (And.intro rfl trivial))))), (And.intro rfl (And.intro (hsn) trivial))⟩
      · (repeat' (first | (with_reducible first | intro hg | refine awp_seq ?_ | refine q_seq ?_ | refine q_blk ?_ | refine awp_block ?_ | refine awp_skip ?_ | refine awp_ret ?_ | refine awp_exit ?_ | refine q_seqE ?_ | refine q_seqR ?_ | refine q_blkR ?_ | refine q_blkE ?_) | ((with_reducible refine awp_region ?_ ?_); (focus exact kr)) | ((with_reducible refine awp_region_any mixed ?_ ?_); (focus exact kr)) | ((with_reducible apply awp_condT); (focus exact rfl); (focus exact tt)) | ((with_reducible apply awp_condF); (focus exact rfl); (focus exact ff)) | ((with_reducible apply awp_condD); (focus exact rfl)) | ((with_reducible apply awp_condN); (focus exact rfl)) | ((with_reducible apply awp_cond); (focus exact rfl)) | ((with_reducible refine q_blkX ?_ ?_); (focus exact rfl)) | ((with_reducible refine r_nil (And.intro ?_ ?_)); (focus exact kr)) | (with_reducible refine r_nil ?_) | ((with_reducible apply r_put); (focus (first | exact o_indexI (j := k + 1) (xs := w) rfl rfl (by omega) rfl | exact dp | exact oc rfl (hw)))) | ((with_reducible apply r_new); (focus exact dn)) | ((with_reducible apply r_app); (focus exact da)) | ((with_reducible apply r_set); (focus exact ds)) | ((with_reducible apply r_putY); (focus exact rfl); (focus exact rfl); (focus exact tf); (focus (first | exact o_indexI (j := k + 1) (xs := w) rfl rfl (by omega) rfl | exact dp | exact oc rfl (hw)))) | ((with_reducible apply r_newY); (focus exact rfl); (focus exact rfl); (focus exact tf); (focus exact dn)) | ((with_reducible apply r_noT); (focus exact rfl); (focus exact rfl); (focus exact ff)) | ((with_reducible apply r_noF); (focus exact rfl); (focus exact rfl); (focus exact tt)) | ((with_reducible apply r_noU); (focus exact rfl); (focus exact rfl)) | ((with_reducible apply r_splitD); (focus exact rfl); (focus exact rfl)) | ((with_reducible apply r_split); (focus exact rfl); (focus exact rfl))))
        exact ⟨k + 1 + 1, ⟨hlt, hJ'⟩, by omega, (And.intro rfl (And.intro rfl (And.intro rfl (And.intro rfl (And.intro rfl trivial))))), (And.intro rfl (And.intro (hsn) trivial))⟩
    obtain rfl : k = w.length := by omega
    rw [bndR_dbl hJ] at g5
    refine awp_own 14 107 (t := 3) (dbl w) rfl (fun k hk => by rw [hk]; rfl) ?_
    have hout : outW w = false := by
      unfold outW
      rw [any_lst]
      rw [List.any_eq_false]
      intro i hi
      have := hJ i (List.mem_range.1 hi)
      rw [inR_iff.2 ⟨by omega, by omega⟩]; simp
    have hin := bndE_in hwl hout
    cases hnz : nzW w
    · rw [hnz] at hin
      rw [bndR_e hin (by decide)] at g4 g5
      (repeat' (first | (with_reducible first | intro hg | refine awp_seq ?_ | refine q_seq ?_ | refine q_blk ?_ | refine awp_block ?_ | refine awp_skip ?_ | refine awp_ret ?_ | refine awp_exit ?_ | refine q_seqE ?_ | refine q_seqR ?_ | refine q_blkR ?_ | refine q_blkE ?_) | ((with_reducible refine awp_region ?_ ?_); (focus exact kr)) | ((with_reducible refine awp_region_any mixed ?_ ?_); (focus exact kr)) | ((with_reducible apply awp_condT); (focus exact rfl); (focus exact tt)) | ((with_reducible apply awp_condF); (focus exact rfl); (focus exact ff)) | ((with_reducible apply awp_condD); (focus exact rfl)) | ((with_reducible apply awp_condN); (focus exact rfl)) | ((with_reducible apply awp_cond); (focus exact rfl)) | ((with_reducible refine q_blkX ?_ ?_); (focus exact rfl)) | ((with_reducible refine r_nil (And.intro ?_ ?_)); (focus exact kr)) | (with_reducible refine r_nil ?_) | ((with_reducible apply r_put); (focus (first | exact dp | exact oc rfl (hcr) | exact oc rfl (hcw) | exact oc rfl (g4) | exact oc rfl (g5)))) | ((with_reducible apply r_new); (focus exact dn)) | ((with_reducible apply r_app); (focus exact da)) | ((with_reducible apply r_set); (focus exact ds)) | ((with_reducible apply r_putY); (focus exact rfl); (focus exact rfl); (focus exact tf); (focus (first | exact dp | exact oc rfl (hcr) | exact oc rfl (hcw) | exact oc rfl (g4) | exact oc rfl (g5)))) | ((with_reducible apply r_newY); (focus exact rfl); (focus exact rfl); (focus exact tf); (focus exact dn)) | ((with_reducible apply r_noT); (focus exact rfl); (focus exact rfl); (focus exact ff)) | ((with_reducible apply r_noF); (focus exact rfl); (focus exact rfl); (focus exact tt)) | ((with_reducible apply r_noU); (focus exact rfl); (focus exact rfl)) | ((with_reducible apply r_splitD); (focus exact rfl); (focus exact rfl)) | ((with_reducible apply r_split); (focus exact rfl); (focus exact rfl))))
      all_goals first | exact absurd rfl hg | (((with_reducible first | apply q_retR | apply q_retN); (focus exact rl)); first | rfl | exact rt_bool (decide_eq_true rfl).symm)
    rw [hnz] at hin
    obtain ⟨_, hz, _⟩ := bndE_ok hin
    have hle := bound_le (T := T) (A := A) (w := w) (xs := y.1) (by omega) hz hbx
    rw [← be] at hle
    have hlp := low_lowP (n := num2 (numT T w w.length) A w A.length) hz
    have hbw : bndR T A w = frc (num2 (numT T w w.length) A w A.length) (denT w w.length) := bndR_0 hin
    unfold frc at hbw
    generalize low (num2 (numT T w w.length) A w A.length) (denT w w.length) = f at *
    cases hsf : smF f
    · rw [hsf] at hbw
      rw [hbw] at g4 g5
      (repeat' (first | (with_reducible first | intro hg | refine awp_seq ?_ | refine q_seq ?_ | refine q_blk ?_ | refine awp_block ?_ | refine awp_skip ?_ | refine awp_ret ?_ | refine awp_exit ?_ | refine q_seqE ?_ | refine q_seqR ?_ | refine q_blkR ?_ | refine q_blkE ?_) | ((with_reducible refine awp_region ?_ ?_); (focus exact kr)) | ((with_reducible refine awp_region_any mixed ?_ ?_); (focus exact kr)) | ((with_reducible apply awp_condT); (focus exact rfl); (focus exact tt)) | ((with_reducible apply awp_condF); (focus exact rfl); (focus exact ff)) | ((with_reducible apply awp_condD); (focus exact rfl)) | ((with_reducible apply awp_condN); (focus exact rfl)) | ((with_reducible apply awp_cond); (focus exact rfl)) | ((with_reducible refine q_blkX ?_ ?_); (focus exact rfl)) | ((with_reducible refine r_nil (And.intro ?_ ?_)); (focus exact kr)) | (with_reducible refine r_nil ?_) | ((with_reducible apply r_put); (focus (first | exact dp | exact oc rfl (hcr) | exact oc rfl (hcw) | exact oc rfl (g4) | exact oc rfl (g5)))) | ((with_reducible apply r_new); (focus exact dn)) | ((with_reducible apply r_app); (focus exact da)) | ((with_reducible apply r_set); (focus exact ds)) | ((with_reducible apply r_putY); (focus exact rfl); (focus exact rfl); (focus exact tf); (focus (first | exact dp | exact oc rfl (hcr) | exact oc rfl (hcw) | exact oc rfl (g4) | exact oc rfl (g5)))) | ((with_reducible apply r_newY); (focus exact rfl); (focus exact rfl); (focus exact tf); (focus exact dn)) | ((with_reducible apply r_noT); (focus exact rfl); (focus exact rfl); (focus exact ff)) | ((with_reducible apply r_noF); (focus exact rfl); (focus exact rfl); (focus exact tt)) | ((with_reducible apply r_noU); (focus exact rfl); (focus exact rfl)) | ((with_reducible apply r_splitD); (focus exact rfl); (focus exact rfl)) | ((with_reducible apply r_split); (focus exact rfl); (focus exact rfl))))
      all_goals first | exact absurd rfl hg | (((with_reducible first | apply q_retR | apply q_retN); (focus exact rl)); first | rfl | exact rt_bool (decide_eq_true rfl).symm)
    · rw [hsf] at hbw
      rw [hbw] at g4 g5
      obtain ⟨r1, r2⟩ := smF_bnd hlp hsf
      have c1 := bIsLowest_A f ⟨⟨by omega, by omega⟩, ⟨by omega, by omega⟩⟩
      rw [hlp] at c1
      have c2 := bIsSmall_A f r2.1
      rw [hsf] at c2
      have c3 := compare2_A f.1 f.2 y.2 1 (by omega) (by omega) (by omega) (by decide)
      have hsg : sgnZ (f.1 * 1 - y.2 * f.2) ≤ 0 := by
        rcases Int.lt_trichotomy (f.1 * 1 - y.2 * f.2) 0 with h | h | h
        · rw [sgn_neg h]; decide
        · rw [sgn_zero h]; decide
        · omega
      (repeat' (first | (with_reducible first | intro hg | refine awp_seq ?_ | refine q_seq ?_ | refine q_blk ?_ | refine awp_block ?_ | refine awp_skip ?_ | refine awp_ret ?_ | refine awp_exit ?_ | refine q_seqE ?_ | refine q_seqR ?_ | refine q_blkR ?_ | refine q_blkE ?_) | ((with_reducible refine awp_region ?_ ?_); (focus exact kr)) | ((with_reducible refine awp_region_any mixed ?_ ?_); (focus exact kr)) | ((with_reducible apply awp_condT); (focus exact rfl); (focus exact tt)) | ((with_reducible apply awp_condF); (focus exact rfl); (focus exact ff)) | ((with_reducible apply awp_condD); (focus exact rfl)) | ((with_reducible apply awp_condN); (focus exact rfl)) | ((with_reducible apply awp_cond); (focus exact rfl)) | ((with_reducible refine q_blkX ?_ ?_); (focus exact rfl)) | ((with_reducible refine r_nil (And.intro ?_ ?_)); (focus exact kr)) | (with_reducible refine r_nil ?_) | ((with_reducible apply r_put); (focus (first | exact dp | exact oc rfl (hcr) | exact oc rfl (hcw) | exact oc rfl (g4) | exact oc rfl (g5) | exact oc rfl (c1) | exact oc rfl (c2) | exact oc rfl (c3)))) | ((with_reducible apply r_new); (focus exact dn)) | ((with_reducible apply r_app); (focus exact da)) | ((with_reducible apply r_set); (focus exact ds)) | ((with_reducible apply r_putY); (focus exact rfl); (focus exact rfl); (focus exact tf); (focus (first | exact dp | exact oc rfl (hcr) | exact oc rfl (hcw) | exact oc rfl (g4) | exact oc rfl (g5) | exact oc rfl (c1) | exact oc rfl (c2) | exact oc rfl (c3)))) | ((with_reducible apply r_newY); (focus exact rfl); (focus exact rfl); (focus exact tf); (focus exact dn)) | ((with_reducible apply r_noT); (focus exact rfl); (focus exact rfl); (focus exact ff)) | ((with_reducible apply r_noF); (focus exact rfl); (focus exact rfl); (focus exact tt)) | ((with_reducible apply r_noU); (focus exact rfl); (focus exact rfl)) | ((with_reducible apply r_splitD); (focus exact rfl); (focus exact rfl)) | ((with_reducible apply r_split); (focus exact rfl); (focus exact rfl))))
      all_goals first | exact absurd rfl hg | (((with_reducible first | apply q_retR | apply q_retN); (focus exact rl)); first | rfl | exact rt_bool (decide_eq_true (by first | rfl | exact hsg)).symm)
  · (repeat' (first | (with_reducible first | intro hg | refine awp_seq ?_ | refine q_seq ?_ | refine q_blk ?_ | refine awp_block ?_ | refine awp_skip ?_ | refine awp_ret ?_ | refine awp_exit ?_ | refine q_seqE ?_ | refine q_seqR ?_ | refine q_blkR ?_ | refine q_blkE ?_) | ((with_reducible refine awp_region ?_ ?_); (focus exact kr)) | ((with_reducible refine awp_region_any mixed ?_ ?_); (focus exact kr)) | ((with_reducible apply awp_condT); (focus exact rfl); (focus exact tt)) | ((with_reducible apply awp_condF); (focus exact rfl); (focus exact ff)) | ((with_reducible apply awp_condD); (focus exact rfl)) | ((with_reducible apply awp_condN); (focus exact rfl)) | ((with_reducible apply awp_cond); (focus exact rfl)) | ((with_reducible refine q_blkX ?_ ?_); (focus exact rfl)) | ((with_reducible refine r_nil (And.intro ?_ ?_)); (focus exact kr)) | (with_reducible refine r_nil ?_) | ((with_reducible apply r_put); (focus (first | exact dp | exact oc rfl (aw) | exact oc rfl (hf) | exact oc rfl (hre) | exact oc rfl (hs) | exact oc rfl (hcr) | exact oc rfl (hcx) | exact oc rfl (hcb) | exact oc rfl (g1) | exact oc rfl (g2) | exact oc rfl (g3)))) | ((with_reducible apply r_new); (focus exact dn)) | ((with_reducible apply r_app); (focus exact da)) | ((with_reducible apply r_set); (focus exact ds)) | ((with_reducible apply r_putY); (focus exact rfl); (focus exact rfl); (focus exact tf); (focus (first | exact dp | exact oc rfl (aw) | exact oc rfl (hf) | exact oc rfl (hre) | exact oc rfl (hs) | exact oc rfl (hcr) | exact oc rfl (hcx) | exact oc rfl (hcb) | exact oc rfl (g1) | exact oc rfl (g2) | exact oc rfl (g3)))) | ((with_reducible apply r_newY); (focus exact rfl); (focus exact rfl); (focus exact tf); (focus exact dn)) | ((with_reducible apply r_noT); (focus exact rfl); (focus exact rfl); (focus exact ff)) | ((with_reducible apply r_noF); (focus exact rfl); (focus exact rfl); (focus exact tt)) | ((with_reducible apply r_noU); (focus exact rfl); (focus exact rfl)) | ((with_reducible apply r_splitD); (focus exact rfl); (focus exact rfl)) | ((with_reducible apply r_split); (focus exact rfl); (focus exact rfl))))
    refine awp_loopL (α := Nat) (fun k => [(1, .d (isl w)), (3, .ptr 3 0), (8, .d (I y.2)), (14, ownS 107 k), (15, .d (I k))]) (fun k => (3, ⟨25, rulC T A⟩) :: ownM 107 3 (ivs (lst (dbl w) k)) k) (fun k => k ≤ w.length ∧ ∀ i, i < k → -400 ≤ nth w i ∧ nth w i ≤ 400) (fun k => w.length - k) 0 ⟨Nat.zero_le _, fun i h => absurd h (by omega)⟩ (And.intro rfl (And.intro rfl (And.intro rfl (And.intro rfl (And.intro rfl trivial))))) (And.intro rfl trivial) fun k ⟨hk, hJ⟩ => ?_
    clear g1 g2 g3 hcx hcb hs aw hf hre
    by_cases hlt : k < w.length
    · have hw := bwithin_A (nth w k) (-400) 400
      cases hq4 : inR (nth w k) (-400) 400
      · rw [hq4] at hw
        (repeat' (first | (with_reducible first | intro hg | refine awp_seq ?_ | refine q_seq ?_ | refine q_blk ?_ | refine awp_block ?_ | refine awp_skip ?_ | refine awp_ret ?_ | refine awp_exit ?_ | refine q_seqE ?_ | refine q_seqR ?_ | refine q_blkR ?_ | refine q_blkE ?_) | ((with_reducible refine awp_region ?_ ?_); (focus exact kr)) | ((with_reducible refine awp_region_any mixed ?_ ?_); (focus exact kr)) | ((with_reducible apply awp_condT); (focus exact rfl); (focus exact tt)) | ((with_reducible apply awp_condF); (focus exact rfl); (focus exact ff)) | ((with_reducible apply awp_condD); (focus exact rfl)) | ((with_reducible apply awp_condN); (focus exact rfl)) | ((with_reducible apply awp_cond); (focus exact rfl)) | ((with_reducible refine q_blkX ?_ ?_); (focus exact rfl)) | ((with_reducible refine r_nil (And.intro ?_ ?_)); (focus exact kr)) | (with_reducible refine r_nil ?_) | ((with_reducible apply r_put); (focus (first | exact o_indexI (j := k) (xs := w) rfl rfl (by omega) rfl | exact dp | exact oc rfl (hw)))) | ((with_reducible apply r_new); (focus exact dn)) | ((with_reducible apply r_app); (focus exact da)) | ((with_reducible apply r_set); (focus exact ds)) | ((with_reducible apply r_putY); (focus exact rfl); (focus exact rfl); (focus exact tf); (focus (first | exact o_indexI (j := k) (xs := w) rfl rfl (by omega) rfl | exact dp | exact oc rfl (hw)))) | ((with_reducible apply r_newY); (focus exact rfl); (focus exact rfl); (focus exact tf); (focus exact dn)) | ((with_reducible apply r_noT); (focus exact rfl); (focus exact rfl); (focus exact ff)) | ((with_reducible apply r_noF); (focus exact rfl); (focus exact rfl); (focus exact tt)) | ((with_reducible apply r_noU); (focus exact rfl); (focus exact rfl)) | ((with_reducible apply r_splitD); (focus exact rfl); (focus exact rfl)) | ((with_reducible apply r_split); (focus exact rfl); (focus exact rfl))))
        ((with_reducible first | apply q_retR | apply q_retN); (focus exact rl))
        rfl
      rw [hq4] at hw
      have j4 := inR_iff.1 hq4
      have hsn := blk_snoc 3 (dbl w) k (v := 2 * nth w k) rfl
      have hJ' : ∀ i, i < k + 1 → -400 ≤ nth w i ∧ nth w i ≤ 400 := fun i hi => by
        by_cases e : i = k
        · rw [e]; exact j4
        · exact hJ i (by omega)
      rcases k with _ | k
      · (repeat' (first | (with_reducible first | intro hg | refine awp_seq ?_ | refine q_seq ?_ | refine q_blk ?_ | refine awp_block ?_ | refine awp_skip ?_ | refine awp_ret ?_ | refine awp_exit ?_ | refine q_seqE ?_ | refine q_seqR ?_ | refine q_blkR ?_ | refine q_blkE ?_) | ((with_reducible refine awp_region ?_ ?_); (focus exact kr)) | ((with_reducible refine awp_region_any mixed ?_ ?_); (focus exact kr)) | ((with_reducible apply awp_condT); (focus exact rfl); (focus exact tt)) | ((with_reducible apply awp_condF); (focus exact rfl); (focus exact ff)) | ((with_reducible apply awp_condD); (focus exact rfl)) | ((with_reducible apply awp_condN); (focus exact rfl)) | ((with_reducible apply awp_cond); (focus exact rfl)) | ((with_reducible refine q_blkX ?_ ?_); (focus exact rfl)) | ((with_reducible refine r_nil (And.intro ?_ ?_)); (focus exact kr)) | (with_reducible refine r_nil ?_) | ((with_reducible apply r_put); (focus (first | exact o_indexI (j := 0) (xs := w) rfl rfl (by omega) rfl | exact dp | exact oc rfl (hw)))) | ((with_reducible apply r_new); (focus exact dn)) | ((with_reducible apply r_app); (focus exact da)) | ((with_reducible apply r_set); (focus exact ds)) | ((with_reducible apply r_putY); (focus exact rfl); (focus exact rfl); (focus exact tf); (focus (first | exact o_indexI (j := 0) (xs := w) rfl rfl (by omega) rfl | exact dp | exact oc rfl (hw)))) | ((with_reducible apply r_newY); (focus exact rfl); (focus exact rfl); (focus exact tf); (focus exact dn)) | ((with_reducible apply r_noT); (focus exact rfl); (focus exact rfl); (focus exact ff)) | ((with_reducible apply r_noF); (focus exact rfl); (focus exact rfl); (focus exact tt)) | ((with_reducible apply r_noU); (focus exact rfl); (focus exact rfl)) | ((with_reducible apply r_splitD); (focus exact rfl); (focus exact rfl)) | ((with_reducible apply r_split); (focus exact rfl); (focus exact rfl))))
        exact ⟨1, ⟨hlt, hJ'⟩, by omega, (And.intro rfl (And.intro rfl (And.intro rfl (And.intro rfl (And.intro rfl trivial))))), (And.intro rfl (And.intro (hsn) trivial))⟩
      · (repeat' (first | (with_reducible first | intro hg | refine awp_seq ?_ | refine q_seq ?_ | refine q_blk ?_ | refine awp_block ?_ | refine awp_skip ?_ | refine awp_ret ?_ | refine awp_exit ?_ | refine q_seqE ?_ | refine q_seqR ?_ | refine q_blkR ?_ | refine q_blkE ?_) | ((with_reducible refine awp_region ?_ ?_); (focus exact kr)) | ((with_reducible refine awp_region_any mixed ?_ ?_); (focus exact kr)) | ((with_reducible apply awp_condT); (focus exact rfl); (focus exact tt)) | ((with_reducible apply awp_condF); (focus exact rfl); (focus exact ff)) | ((with_reducible apply awp_condD); (focus exact rfl)) | ((with_reducible apply awp_condN); (focus exact rfl)) | ((with_reducible apply awp_cond); (focus exact rfl)) | ((with_reducible refine q_blkX ?_ ?_); (focus exact rfl)) | ((with_reducible refine r_nil (And.intro ?_ ?_)); (focus exact kr)) | (with_reducible refine r_nil ?_) | ((with_reducible apply r_put); (focus (first | exact o_indexI (j := k + 1) (xs := w) rfl rfl (by omega) rfl | exact dp | exact oc rfl (hw)))) | ((with_reducible apply r_new); (focus exact dn)) | ((with_reducible apply r_app); (focus exact da)) | ((with_reducible apply r_set); (focus exact ds)) | ((with_reducible apply r_putY); (focus exact rfl); (focus exact rfl); (focus exact tf); (focus (first | exact o_indexI (j := k + 1) (xs := w) rfl rfl (by omega) rfl | exact dp | exact oc rfl (hw)))) | ((with_reducible apply r_newY); (focus exact rfl); (focus exact rfl); (focus exact tf); (focus exact dn)) | ((with_reducible apply r_noT); (focus exact rfl); (focus exact rfl); (focus exact ff)) | ((with_reducible apply r_noF); (focus exact rfl); (focus exact rfl); (focus exact tt)) | ((with_reducible apply r_noU); (focus exact rfl); (focus exact rfl)) | ((with_reducible apply r_splitD); (focus exact rfl); (focus exact rfl)) | ((with_reducible apply r_split); (focus exact rfl); (focus exact rfl))))
        exact ⟨k + 1 + 1, ⟨hlt, hJ'⟩, by omega, (And.intro rfl (And.intro rfl (And.intro rfl (And.intro rfl (And.intro rfl trivial))))), (And.intro rfl (And.intro (hsn) trivial))⟩
    obtain rfl : k = w.length := by omega
    rw [bndR_dbl hJ] at g5
    refine awp_own 14 107 (t := 3) (dbl w) rfl (fun k hk => by rw [hk]; rfl) ?_
    have hout : outW w = false := by
      unfold outW
      rw [any_lst]
      rw [List.any_eq_false]
      intro i hi
      have := hJ i (List.mem_range.1 hi)
      rw [inR_iff.2 ⟨by omega, by omega⟩]; simp
    have hin := bndE_in hwl hout
    cases hnz : nzW w
    · rw [hnz] at hin
      rw [bndR_e hin (by decide)] at g4 g5
      (repeat' (first | (with_reducible first | intro hg | refine awp_seq ?_ | refine q_seq ?_ | refine q_blk ?_ | refine awp_block ?_ | refine awp_skip ?_ | refine awp_ret ?_ | refine awp_exit ?_ | refine q_seqE ?_ | refine q_seqR ?_ | refine q_blkR ?_ | refine q_blkE ?_) | ((with_reducible refine awp_region ?_ ?_); (focus exact kr)) | ((with_reducible refine awp_region_any mixed ?_ ?_); (focus exact kr)) | ((with_reducible apply awp_condT); (focus exact rfl); (focus exact tt)) | ((with_reducible apply awp_condF); (focus exact rfl); (focus exact ff)) | ((with_reducible apply awp_condD); (focus exact rfl)) | ((with_reducible apply awp_condN); (focus exact rfl)) | ((with_reducible apply awp_cond); (focus exact rfl)) | ((with_reducible refine q_blkX ?_ ?_); (focus exact rfl)) | ((with_reducible refine r_nil (And.intro ?_ ?_)); (focus exact kr)) | (with_reducible refine r_nil ?_) | ((with_reducible apply r_put); (focus (first | exact dp | exact oc rfl (hcr) | exact oc rfl (hcw) | exact oc rfl (g4) | exact oc rfl (g5)))) | ((with_reducible apply r_new); (focus exact dn)) | ((with_reducible apply r_app); (focus exact da)) | ((with_reducible apply r_set); (focus exact ds)) | ((with_reducible apply r_putY); (focus exact rfl); (focus exact rfl); (focus exact tf); (focus (first | exact dp | exact oc rfl (hcr) | exact oc rfl (hcw) | exact oc rfl (g4) | exact oc rfl (g5)))) | ((with_reducible apply r_newY); (focus exact rfl); (focus exact rfl); (focus exact tf); (focus exact dn)) | ((with_reducible apply r_noT); (focus exact rfl); (focus exact rfl); (focus exact ff)) | ((with_reducible apply r_noF); (focus exact rfl); (focus exact rfl); (focus exact tt)) | ((with_reducible apply r_noU); (focus exact rfl); (focus exact rfl)) | ((with_reducible apply r_splitD); (focus exact rfl); (focus exact rfl)) | ((with_reducible apply r_split); (focus exact rfl); (focus exact rfl))))
      all_goals first | exact absurd rfl hg | (((with_reducible first | apply q_retR | apply q_retN); (focus exact rl)); first | rfl | exact rt_bool (decide_eq_true rfl).symm)
    rw [hnz] at hin
    obtain ⟨_, hz, _⟩ := bndE_ok hin
    have hle := bound_le (T := T) (A := A) (w := w) (xs := y.1) (by omega) hz hbx
    rw [← be] at hle
    have hlp := low_lowP (n := num2 (numT T w w.length) A w A.length) hz
    have hbw : bndR T A w = frc (num2 (numT T w w.length) A w A.length) (denT w w.length) := bndR_0 hin
    unfold frc at hbw
    generalize low (num2 (numT T w w.length) A w A.length) (denT w w.length) = f at *
    cases hsf : smF f
    · rw [hsf] at hbw
      rw [hbw] at g4 g5
      (repeat' (first | (with_reducible first | intro hg | refine awp_seq ?_ | refine q_seq ?_ | refine q_blk ?_ | refine awp_block ?_ | refine awp_skip ?_ | refine awp_ret ?_ | refine awp_exit ?_ | refine q_seqE ?_ | refine q_seqR ?_ | refine q_blkR ?_ | refine q_blkE ?_) | ((with_reducible refine awp_region ?_ ?_); (focus exact kr)) | ((with_reducible refine awp_region_any mixed ?_ ?_); (focus exact kr)) | ((with_reducible apply awp_condT); (focus exact rfl); (focus exact tt)) | ((with_reducible apply awp_condF); (focus exact rfl); (focus exact ff)) | ((with_reducible apply awp_condD); (focus exact rfl)) | ((with_reducible apply awp_condN); (focus exact rfl)) | ((with_reducible apply awp_cond); (focus exact rfl)) | ((with_reducible refine q_blkX ?_ ?_); (focus exact rfl)) | ((with_reducible refine r_nil (And.intro ?_ ?_)); (focus exact kr)) | (with_reducible refine r_nil ?_) | ((with_reducible apply r_put); (focus (first | exact dp | exact oc rfl (hcr) | exact oc rfl (hcw) | exact oc rfl (g4) | exact oc rfl (g5)))) | ((with_reducible apply r_new); (focus exact dn)) | ((with_reducible apply r_app); (focus exact da)) | ((with_reducible apply r_set); (focus exact ds)) | ((with_reducible apply r_putY); (focus exact rfl); (focus exact rfl); (focus exact tf); (focus (first | exact dp | exact oc rfl (hcr) | exact oc rfl (hcw) | exact oc rfl (g4) | exact oc rfl (g5)))) | ((with_reducible apply r_newY); (focus exact rfl); (focus exact rfl); (focus exact tf); (focus exact dn)) | ((with_reducible apply r_noT); (focus exact rfl); (focus exact rfl); (focus exact ff)) | ((with_reducible apply r_noF); (focus exact rfl); (focus exact rfl); (focus exact tt)) | ((with_reducible apply r_noU); (focus exact rfl); (focus exact rfl)) | ((with_reducible apply r_splitD); (focus exact rfl); (focus exact rfl)) | ((with_reducible apply r_split); (focus exact rfl); (focus exact rfl))))
      all_goals first | exact absurd rfl hg | (((with_reducible first | apply q_retR | apply q_retN); (focus exact rl)); first | rfl | exact rt_bool (decide_eq_true rfl).symm)
    · rw [hsf] at hbw
      rw [hbw] at g4 g5
      obtain ⟨r1, r2⟩ := smF_bnd hlp hsf
      have c1 := bIsLowest_A f ⟨⟨by omega, by omega⟩, ⟨by omega, by omega⟩⟩
      rw [hlp] at c1
      have c2 := bIsSmall_A f r2.1
      rw [hsf] at c2
      have c3 := compare2_A f.1 f.2 y.2 1 (by omega) (by omega) (by omega) (by decide)
      have hsg : sgnZ (f.1 * 1 - y.2 * f.2) ≤ 0 := by
        rcases Int.lt_trichotomy (f.1 * 1 - y.2 * f.2) 0 with h | h | h
        · rw [sgn_neg h]; decide
        · rw [sgn_zero h]; decide
        · omega
      (repeat' (first | (with_reducible first | intro hg | refine awp_seq ?_ | refine q_seq ?_ | refine q_blk ?_ | refine awp_block ?_ | refine awp_skip ?_ | refine awp_ret ?_ | refine awp_exit ?_ | refine q_seqE ?_ | refine q_seqR ?_ | refine q_blkR ?_ | refine q_blkE ?_) | ((with_reducible refine awp_region ?_ ?_); (focus exact kr)) | ((with_reducible refine awp_region_any mixed ?_ ?_); (focus exact kr)) | ((with_reducible apply awp_condT); (focus exact rfl); (focus exact tt)) | ((with_reducible apply awp_condF); (focus exact rfl); (focus exact ff)) | ((with_reducible apply awp_condD); (focus exact rfl)) | ((with_reducible apply awp_condN); (focus exact rfl)) | ((with_reducible apply awp_cond); (focus exact rfl)) | ((with_reducible refine q_blkX ?_ ?_); (focus exact rfl)) | ((with_reducible refine r_nil (And.intro ?_ ?_)); (focus exact kr)) | (with_reducible refine r_nil ?_) | ((with_reducible apply r_put); (focus (first | exact dp | exact oc rfl (hcr) | exact oc rfl (hcw) | exact oc rfl (g4) | exact oc rfl (g5) | exact oc rfl (c1) | exact oc rfl (c2) | exact oc rfl (c3)))) | ((with_reducible apply r_new); (focus exact dn)) | ((with_reducible apply r_app); (focus exact da)) | ((with_reducible apply r_set); (focus exact ds)) | ((with_reducible apply r_putY); (focus exact rfl); (focus exact rfl); (focus exact tf); (focus (first | exact dp | exact oc rfl (hcr) | exact oc rfl (hcw) | exact oc rfl (g4) | exact oc rfl (g5) | exact oc rfl (c1) | exact oc rfl (c2) | exact oc rfl (c3)))) | ((with_reducible apply r_newY); (focus exact rfl); (focus exact rfl); (focus exact tf); (focus exact dn)) | ((with_reducible apply r_noT); (focus exact rfl); (focus exact rfl); (focus exact ff)) | ((with_reducible apply r_noF); (focus exact rfl); (focus exact rfl); (focus exact tt)) | ((with_reducible apply r_noU); (focus exact rfl); (focus exact rfl)) | ((with_reducible apply r_splitD); (focus exact rfl); (focus exact rfl)) | ((with_reducible apply r_split); (focus exact rfl); (focus exact rfl))))
      all_goals first | exact absurd rfl hg | (((with_reducible first | apply q_retR | apply q_retN); (focus exact rl)); first | rfl | exact rt_bool (decide_eq_true (by first | rfl | exact hsg)).symm)

end Go.Proofs.Ytgklcfjfegceeaa
