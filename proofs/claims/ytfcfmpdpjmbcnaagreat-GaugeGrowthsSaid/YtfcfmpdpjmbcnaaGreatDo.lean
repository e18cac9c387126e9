/- Wide numbers (chapter 5): products, sums, comparisons. -/
import Derived.Test.YtfcfmpdpjmbcnaaGreatDm
import Derived.Test.YtfcfmpdpjmbcnaaGreatEi
set_option linter.unusedVariables false
set_option linter.unusedSimpArgs false
namespace Go.Proofs.YtfcfmpdpjmbcnaaGreat
open Go.RowKit
set_option maxRecDepth 20000
set_option maxHeartbeats 8000000

abbrev WV (w : Wd) : DV := .agg [U (w.1 / 18446744073709551616), U (w.1 % 18446744073709551616), B w.2]
theorem mul_hl (x N : Nat) : x * N / 18446744073709551616 = x / 18446744073709551616 * N + x % 18446744073709551616 * N / 18446744073709551616 ∧ x * N % 18446744073709551616 = x % 18446744073709551616 * N % 18446744073709551616 := by
  have e : x * N = 18446744073709551616 * (x / 18446744073709551616 * N) + x % 18446744073709551616 * N := by
    conv => lhs; rw [← Nat.div_add_mod x 18446744073709551616]
    rw [Nat.add_mul, Nat.mul_assoc]
  constructor
  · rw [e, Nat.mul_add_div (by decide)]
  · rw [e, Nat.mul_add_mod]
theorem gwOf_A (n : Int) (hn : Sm n) : AC Tryz.prog 39 [I n] (WV (ofW n)) := by
  obtain ⟨hn1, hn2⟩ := id hn
  have e1 : (ofW n).1 / 18446744073709551616 = 0 := by show n.natAbs / _ = 0; omega
  have e2 : (ofW n).1 % 18446744073709551616 = n.natAbs := by show n.natAbs % _ = _; omega
  unfold WV
  rw [e1, e2]
  have hs := size_A n hn
  refine ac_body Tryz.func39 rfl (by kernel_rfl) fun w0 ok => ?_; show AWp _ (ctx0 w0 ok _) _ (ARet _ _ _) (entry _)
  (repeat' (first | (with_reducible first | intro hg | refine mv (by constructor) ?_) | ((with_reducible first | refine zR ?_ ?_ | refine zW mixed ?_ ?_); exact kr) | ((with_reducible apply zK); exact rfl; exact tf) | ((with_reducible apply zCD); exact rfl) | ((with_reducible apply zCN); exact rfl) | ((with_reducible apply zC); exact rfl) | ((with_reducible refine zX ?_ ?_); exact rfl) | ((with_reducible refine zE (And.intro ?_ ?_)); exact kr) | (with_reducible refine zE ?_) | ((with_reducible apply zP); (first | exact o_conv (k' := .u64) rfl (wu (by omega)) | exact dp | exact oc rfl (hs))) | ((with_reducible apply zN); exact dn) | ((with_reducible apply zA); exact da) | ((with_reducible apply zS); exact ds) | ((with_reducible apply zY); exact rfl; exact rfl; exact tf) | ((with_reducible apply zG); exact rfl; exact rfl; exact tf) | ((with_reducible apply zU); exact rfl; exact rfl) | ((with_reducible apply zD); exact rfl; exact rfl) | ((with_reducible apply zB); exact rfl; exact rfl)))
  ((with_reducible first | apply q_retR | apply q_retN); exact rl)
  rfl
theorem by_A (w : Wd) (n : Int) (hn : Sm n) (h : w.1 * n.natAbs < 340282366920938463463374607431768211456) : AC Tryz.prog 41 [WV w, I n] (WV (byW w n)) := by
  obtain ⟨hn1, hn2⟩ := id hn
  have hs := size_A n hn
  obtain ⟨e1, e2⟩ := mul_hl w.1 n.natAbs
  have e3 : w.1 * n.natAbs / 18446744073709551616 < 18446744073709551616 := by omega
  have hm := mul64_A (w.1 % 18446744073709551616) n.natAbs (by omega) (by omega)
  obtain ⟨N, hN⟩ : ∃ N, N = n.natAbs := ⟨_, rfl⟩
  show AC _ _ _ (.agg [U (w.1 * n.natAbs / 18446744073709551616), U (w.1 * n.natAbs % 18446744073709551616), B (w.2 != decide (n < 0))])
  rw [← hN] at hs hm e1 e2 e3 h ⊢
  rw [e1] at e3
  rw [e1, e2]
  clear e1 e2 h
  generalize w.1 % 18446744073709551616 * N / 18446744073709551616 = c at *
  generalize w.1 % 18446744073709551616 * N % 18446744073709551616 = d at *
  refine ac_body Tryz.func41 rfl (by kernel_rfl) fun w0 ok => ?_; show AWp _ (ctx0 w0 ok _) _ (ARet _ _ _) (entry _)
  (repeat' (first | (with_reducible first | intro hg | refine mv (by constructor) ?_) | ((with_reducible first | refine zR ?_ ?_ | refine zW mixed ?_ ?_); exact kr) | ((with_reducible apply zK); exact rfl; exact tf) | ((with_reducible apply zCD); exact rfl) | ((with_reducible apply zCN); exact rfl) | ((with_reducible apply zC); exact rfl) | ((with_reducible refine zX ?_ ?_); exact rfl) | ((with_reducible refine zE (And.intro ?_ ?_)); exact kr) | (with_reducible refine zE ?_) | ((with_reducible apply zP); (first | exact o_conv (k' := .u64) rfl (wu (by omega)) | exact o_mulU rfl rfl (by omega) | exact o_addU rfl rfl (by omega) | exact o_neqB rfl rfl | exact dp | exact oc rfl (hs) | exact oc rfl (hm))) | ((with_reducible apply zN); exact dn) | ((with_reducible apply zA); exact da) | ((with_reducible apply zS); exact ds) | ((with_reducible apply zY); exact rfl; exact rfl; exact tf) | ((with_reducible apply zG); exact rfl; exact rfl; exact tf) | ((with_reducible apply zU); exact rfl; exact rfl) | ((with_reducible apply zD); exact rfl; exact rfl) | ((with_reducible apply zB); exact rfl; exact rfl)))
  ((with_reducible first | apply q_retR | apply q_retN); exact rl)
  rfl
theorem isZero_A (w : Wd) : AC Tryz.prog 113 [WV w] (B (w.1 == 0)) := by
  by_cases h : w.1 = 0
  · rw [show (w.1 == 0) = true by rw [h]; rfl]
    refine ac_body Tryz.func113 rfl (by kernel_rfl) fun w0 ok => ?_; show AWp _ (ctx0 w0 ok _) _ (ARet _ _ _) (entry _)
    (repeat' (first | (with_reducible first | intro hg | refine mv (by constructor) ?_) | ((with_reducible first | refine zR ?_ ?_ | refine zW mixed ?_ ?_); exact kr) | ((with_reducible apply zK); exact rfl; exact tf) | ((with_reducible apply zCD); exact rfl) | ((with_reducible apply zCN); exact rfl) | ((with_reducible apply zC); exact rfl) | ((with_reducible refine zX ?_ ?_); exact rfl) | ((with_reducible refine zE (And.intro ?_ ?_)); exact kr) | (with_reducible refine zE ?_) | ((with_reducible apply zP); exact dp) | ((with_reducible apply zN); exact dn) | ((with_reducible apply zA); exact da) | ((with_reducible apply zS); exact ds) | ((with_reducible apply zY); exact rfl; exact rfl; exact tf) | ((with_reducible apply zG); exact rfl; exact rfl; exact tf) | ((with_reducible apply zU); exact rfl; exact rfl) | ((with_reducible apply zD); exact rfl; exact rfl) | ((with_reducible apply zB); exact rfl; exact rfl)))
    ((with_reducible first | apply q_retR | apply q_retN); exact rl)
    exact congrArg (fun b => B b) (decide_eq_true (by omega)).symm
  · rw [show (w.1 == 0) = false from beq_false_of_ne h]
    by_cases h1 : w.1 / 18446744073709551616 = 0
    · refine ac_body Tryz.func113 rfl (by kernel_rfl) fun w0 ok => ?_; show AWp _ (ctx0 w0 ok _) _ (ARet _ _ _) (entry _)
      (repeat' (first | (with_reducible first | intro hg | refine mv (by constructor) ?_) | ((with_reducible first | refine zR ?_ ?_ | refine zW mixed ?_ ?_); exact kr) | ((with_reducible apply zK); exact rfl; exact tf) | ((with_reducible apply zCD); exact rfl) | ((with_reducible apply zCN); exact rfl) | ((with_reducible apply zC); exact rfl) | ((with_reducible refine zX ?_ ?_); exact rfl) | ((with_reducible refine zE (And.intro ?_ ?_)); exact kr) | (with_reducible refine zE ?_) | ((with_reducible apply zP); exact dp) | ((with_reducible apply zN); exact dn) | ((with_reducible apply zA); exact da) | ((with_reducible apply zS); exact ds) | ((with_reducible apply zY); exact rfl; exact rfl; exact tf) | ((with_reducible apply zG); exact rfl; exact rfl; exact tf) | ((with_reducible apply zU); exact rfl; exact rfl) | ((with_reducible apply zD); exact rfl; exact rfl) | ((with_reducible apply zB); exact rfl; exact rfl)))
      ((with_reducible first | apply q_retR | apply q_retN); exact rl)
      exact congrArg (fun b => B b) (decide_eq_false (by omega)).symm
    · refine ac_body Tryz.func113 rfl (by kernel_rfl) fun w0 ok => ?_; show AWp _ (ctx0 w0 ok _) _ (ARet _ _ _) (entry _)
      (repeat' (first | (with_reducible first | intro hg | refine mv (by constructor) ?_) | ((with_reducible first | refine zR ?_ ?_ | refine zW mixed ?_ ?_); exact kr) | ((with_reducible apply zK); exact rfl; exact tf) | ((with_reducible apply zCD); exact rfl) | ((with_reducible apply zCN); exact rfl) | ((with_reducible apply zC); exact rfl) | ((with_reducible refine zX ?_ ?_); exact rfl) | ((with_reducible refine zE (And.intro ?_ ?_)); exact kr) | (with_reducible refine zE ?_) | ((with_reducible apply zP); exact dp) | ((with_reducible apply zN); exact dn) | ((with_reducible apply zA); exact da) | ((with_reducible apply zS); exact ds) | ((with_reducible apply zY); exact rfl; exact rfl; exact tf) | ((with_reducible apply zG); exact rfl; exact rfl; exact tf) | ((with_reducible apply zU); exact rfl; exact rfl) | ((with_reducible apply zD); exact rfl; exact rfl) | ((with_reducible apply zB); exact rfl; exact rfl)))
      ((with_reducible first | apply q_retR | apply q_retN); exact rl)
      rfl
theorem isLess_A (w o : Wd) : AC Tryz.prog 82 [WV w, WV o] (B (decide (w.1 < o.1))) := by
  by_cases h1 : w.1 / 18446744073709551616 < o.1 / 18446744073709551616
  · rw [decide_eq_true (show w.1 < o.1 by omega)]
    refine ac_body Tryz.func82 rfl (by kernel_rfl) fun w0 ok => ?_; show AWp _ (ctx0 w0 ok _) _ (ARet _ _ _) (entry _)
    (repeat' (first | (with_reducible first | intro hg | refine mv (by constructor) ?_) | ((with_reducible first | refine zR ?_ ?_ | refine zW mixed ?_ ?_); exact kr) | ((with_reducible apply zK); exact rfl; exact tf) | ((with_reducible apply zCD); exact rfl) | ((with_reducible apply zCN); exact rfl) | ((with_reducible apply zC); exact rfl) | ((with_reducible refine zX ?_ ?_); exact rfl) | ((with_reducible refine zE (And.intro ?_ ?_)); exact kr) | (with_reducible refine zE ?_) | ((with_reducible apply zP); exact dp) | ((with_reducible apply zN); exact dn) | ((with_reducible apply zA); exact da) | ((with_reducible apply zS); exact ds) | ((with_reducible apply zY); exact rfl; exact rfl; exact tf) | ((with_reducible apply zG); exact rfl; exact rfl; exact tf) | ((with_reducible apply zU); exact rfl; exact rfl) | ((with_reducible apply zD); exact rfl; exact rfl) | ((with_reducible apply zB); exact rfl; exact rfl)))
    ((with_reducible first | apply q_retR | apply q_retN); exact rl)
    rfl
  by_cases h2 : w.1 / 18446744073709551616 = o.1 / 18446744073709551616
  · rw [show decide (w.1 < o.1) = decide (((w.1 % 18446744073709551616 : Nat) : Int) < ((o.1 % 18446744073709551616 : Nat) : Int)) from decide_eq_decide.2 (by omega)]
    refine ac_body Tryz.func82 rfl (by kernel_rfl) fun w0 ok => ?_; show AWp _ (ctx0 w0 ok _) _ (ARet _ _ _) (entry _)
    (repeat' (first | (with_reducible first | intro hg | refine mv (by constructor) ?_) | ((with_reducible first | refine zR ?_ ?_ | refine zW mixed ?_ ?_); exact kr) | ((with_reducible apply zK); exact rfl; exact tf) | ((with_reducible apply zCD); exact rfl) | ((with_reducible apply zCN); exact rfl) | ((with_reducible apply zC); exact rfl) | ((with_reducible refine zX ?_ ?_); exact rfl) | ((with_reducible refine zE (And.intro ?_ ?_)); exact kr) | (with_reducible refine zE ?_) | ((with_reducible apply zP); exact dp) | ((with_reducible apply zN); exact dn) | ((with_reducible apply zA); exact da) | ((with_reducible apply zS); exact ds) | ((with_reducible apply zY); exact rfl; exact rfl; exact tf) | ((with_reducible apply zG); exact rfl; exact rfl; exact tf) | ((with_reducible apply zU); exact rfl; exact rfl) | ((with_reducible apply zD); exact rfl; exact rfl) | ((with_reducible apply zB); exact rfl; exact rfl)))
    ((with_reducible first | apply q_retR | apply q_retN); exact rl)
    rfl
  · rw [decide_eq_false (show ¬ w.1 < o.1 by omega)]
    refine ac_body Tryz.func82 rfl (by kernel_rfl) fun w0 ok => ?_; show AWp _ (ctx0 w0 ok _) _ (ARet _ _ _) (entry _)
    (repeat' (first | (with_reducible first | intro hg | refine mv (by constructor) ?_) | ((with_reducible first | refine zR ?_ ?_ | refine zW mixed ?_ ?_); exact kr) | ((with_reducible apply zK); exact rfl; exact tf) | ((with_reducible apply zCD); exact rfl) | ((with_reducible apply zCN); exact rfl) | ((with_reducible apply zC); exact rfl) | ((with_reducible refine zX ?_ ?_); exact rfl) | ((with_reducible refine zE (And.intro ?_ ?_)); exact kr) | (with_reducible refine zE ?_) | ((with_reducible apply zP); exact dp) | ((with_reducible apply zN); exact dn) | ((with_reducible apply zA); exact da) | ((with_reducible apply zS); exact ds) | ((with_reducible apply zY); exact rfl; exact rfl; exact tf) | ((with_reducible apply zG); exact rfl; exact rfl; exact tf) | ((with_reducible apply zU); exact rfl; exact rfl) | ((with_reducible apply zD); exact rfl; exact rfl) | ((with_reducible apply zB); exact rfl; exact rfl)))
    ((with_reducible first | apply q_retR | apply q_retN); exact rl)
    rfl
theorem equals_A (w o : Wd) : AC Tryz.prog 87 [WV w, WV o] (B (eqW w o)) := by
  obtain ⟨m, s⟩ := w
  obtain ⟨n, t⟩ := o
  have hz := isZero_A (m, s)
  by_cases h : m = n
  · subst h
    have e : eqW (m, s) (m, t) = (s == t || m == 0) := by
      show (m == m && (s == t || m == 0)) = _
      rw [beq_self_eq_true, Bool.true_and]
    rw [e]
    have hz : AC Tryz.prog 113 [WV (m, s)] (B (m == 0)) := hz
    cases s <;> cases t
    all_goals
      refine ac_body Tryz.func87 rfl (by kernel_rfl) fun w0 ok => ?_; show AWp _ (ctx0 w0 ok _) _ (ARet _ _ _) (entry _)
      (repeat' (first | (with_reducible first | intro hg | refine mv (by constructor) ?_) | ((with_reducible first | refine zR ?_ ?_ | refine zW mixed ?_ ?_); exact kr) | ((with_reducible apply zK); exact rfl; exact tf) | ((with_reducible apply zCD); exact rfl) | ((with_reducible apply zCN); exact rfl) | ((with_reducible apply zC); exact rfl) | ((with_reducible refine zX ?_ ?_); exact rfl) | ((with_reducible refine zE (And.intro ?_ ?_)); exact kr) | (with_reducible refine zE ?_) | ((with_reducible apply zP); (first | exact o_eqlB rfl rfl | exact dp | exact oc rfl (hz))) | ((with_reducible apply zN); exact dn) | ((with_reducible apply zA); exact da) | ((with_reducible apply zS); exact ds) | ((with_reducible apply zY); exact rfl; exact rfl; exact tf) | ((with_reducible apply zG); exact rfl; exact rfl; exact tf) | ((with_reducible apply zU); exact rfl; exact rfl) | ((with_reducible apply zD); exact rfl; exact rfl) | ((with_reducible apply zB); exact rfl; exact rfl)))
      ((with_reducible first | apply q_retR | apply q_retN); exact rl)
      rfl
  · have e : eqW (m, s) (n, t) = false := by
      show (m == n && (s == t || m == 0)) = _
      rw [beq_false_of_ne h, Bool.false_and]
    rw [e]
    by_cases h1 : m / 18446744073709551616 = n / 18446744073709551616
    all_goals
      refine ac_body Tryz.func87 rfl (by kernel_rfl) fun w0 ok => ?_; show AWp _ (ctx0 w0 ok _) _ (ARet _ _ _) (entry _)
      (repeat' (first | (with_reducible first | intro hg | refine mv (by constructor) ?_) | ((with_reducible first | refine zR ?_ ?_ | refine zW mixed ?_ ?_); exact kr) | ((with_reducible apply zK); exact rfl; exact tf) | ((with_reducible apply zCD); exact rfl) | ((with_reducible apply zCN); exact rfl) | ((with_reducible apply zC); exact rfl) | ((with_reducible refine zX ?_ ?_); exact rfl) | ((with_reducible refine zE (And.intro ?_ ?_)); exact kr) | (with_reducible refine zE ?_) | ((with_reducible apply zP); (first | exact o_eqlB rfl rfl | exact dp | exact oc rfl (hz))) | ((with_reducible apply zN); exact dn) | ((with_reducible apply zA); exact da) | ((with_reducible apply zS); exact ds) | ((with_reducible apply zY); exact rfl; exact rfl; exact tf) | ((with_reducible apply zG); exact rfl; exact rfl; exact tf) | ((with_reducible apply zU); exact rfl; exact rfl) | ((with_reducible apply zD); exact rfl; exact rfl) | ((with_reducible apply zB); exact rfl; exact rfl)))
      ((with_reducible first | apply q_retR | apply q_retN); exact rl)
      first | rfl | exact congrArg (fun b => B b) (decide_eq_false (by omega)).symm
theorem sub_hi (m n : Nat) (h : n ≤ m) (hm : m < 340282366920938463463374607431768211456) : (m / 18446744073709551616 + 18446744073709551616 - n / 18446744073709551616 - (if m % 18446744073709551616 < n % 18446744073709551616 + 0 then 1 else 0)) % 18446744073709551616 = (m - n) / 18446744073709551616 := by
  split <;> omega
theorem plus_A (a b : Wd) (h : a.1 + b.1 < 340282366920938463463374607431768211456) : AC Tryz.prog 40 [WV a, WV b] (WV (plW a b)) := by
  obtain ⟨m, s⟩ := a
  obtain ⟨n, t⟩ := b
  have h : m + n < 340282366920938463463374607431768211456 := h
  by_cases hst : s = t
  · subst hst
    have e1 : (m / 18446744073709551616 + n / 18446744073709551616 + (m % 18446744073709551616 + n % 18446744073709551616 + 0) / 18446744073709551616) % 18446744073709551616 = (m + n) / 18446744073709551616 := by omega
    have e2 : (m % 18446744073709551616 + n % 18446744073709551616 + 0) % 18446744073709551616 = (m + n) % 18446744073709551616 := by omega
    have e : plW (m, s) (n, s) = (m + n, s) := by
      show (bif s == s then (m + n, s) else _) = _
      rw [beq_self_eq_true]; rfl
    rw [e]
    show AC _ _ [.agg [U (m / 18446744073709551616), U (m % 18446744073709551616), B s], .agg [U (n / 18446744073709551616), U (n % 18446744073709551616), B s]] (.agg [U ((m + n) / 18446744073709551616), U ((m + n) % 18446744073709551616), B s])
    rw [← e1, ← e2]
    have c1 : (m % 18446744073709551616 + n % 18446744073709551616 + 0) / 18446744073709551616 ≤ 1 := by omega
    clear e1 e2 e h
    cases s
    all_goals
      refine ac_body Tryz.func40 rfl (by kernel_rfl) fun w0 ok => ?_; show AWp _ (ctx0 w0 ok _) _ (ARet _ _ _) (entry _)
      (repeat' (first | (with_reducible first | intro hg | refine mv (by constructor) ?_) | ((with_reducible first | refine zR ?_ ?_ | refine zW mixed ?_ ?_); exact kr) | ((with_reducible apply zK); exact rfl; exact tf) | ((with_reducible apply zCD); exact rfl) | ((with_reducible apply zCN); exact rfl) | ((with_reducible apply zC); exact rfl) | ((with_reducible refine zX ?_ ?_); exact rfl) | ((with_reducible refine zE (And.intro ?_ ?_)); exact kr) | (with_reducible refine zE ?_) | ((with_reducible apply zP); (first | exact o_nat3 (add64_N _ _ 0 (by decide)) rfl rfl rfl | exact o_nat3 (add64_N _ _ _ (by exact c1)) rfl rfl rfl | exact o_eqlB rfl rfl | exact dp)) | ((with_reducible apply zN); exact dn) | ((with_reducible apply zA); exact da) | ((with_reducible apply zS); exact ds) | ((with_reducible apply zY); exact rfl; exact rfl; exact tf) | ((with_reducible apply zG); exact rfl; exact rfl; exact tf) | ((with_reducible apply zU); exact rfl; exact rfl) | ((with_reducible apply zD); exact rfl; exact rfl) | ((with_reducible apply zB); exact rfl; exact rfl)))
      ((with_reducible first | apply q_retR | apply q_retN); exact rl)
      rfl
  have hl := isLess_A (m, s) (n, t)
  have hst' : (s == t) = false := beq_false_of_ne hst
  by_cases hmn : m < n
  · have hl : AC Tryz.prog 82 [WV (m, s), WV (n, t)] (B true) := by rw [← decide_eq_true hmn]; exact hl
    have e : plW (m, s) (n, t) = (n - m, t) := by
      show (bif s == t then (m + n, s) else bif decide (m < n) then (n - m, t) else (m - n, s)) = _
      rw [hst', decide_eq_true hmn]; rfl
    have e1 := sub_hi n m (by omega) (by omega)
    have e2 : (n % 18446744073709551616 + 18446744073709551616 - m % 18446744073709551616 - 0) % 18446744073709551616 = (n - m) % 18446744073709551616 := by omega
    have c1 : (if n % 18446744073709551616 < m % 18446744073709551616 + 0 then 1 else 0) ≤ 1 := by split <;> omega
    rw [e]
    show AC _ _ _ (.agg [U ((n - m) / 18446744073709551616), U ((n - m) % 18446744073709551616), B t])
    rw [← e1, ← e2]
    clear e1 e2 e h
    cases s <;> cases t
    all_goals first | exact absurd rfl hst | skip
    all_goals
      refine ac_body Tryz.func40 rfl (by kernel_rfl) fun w0 ok => ?_; show AWp _ (ctx0 w0 ok _) _ (ARet _ _ _) (entry _)
      (repeat' (first | (with_reducible first | intro hg | refine mv (by constructor) ?_) | ((with_reducible first | refine zR ?_ ?_ | refine zW mixed ?_ ?_); exact kr) | ((with_reducible apply zK); exact rfl; exact tf) | ((with_reducible apply zCD); exact rfl) | ((with_reducible apply zCN); exact rfl) | ((with_reducible apply zC); exact rfl) | ((with_reducible refine zX ?_ ?_); exact rfl) | ((with_reducible refine zE (And.intro ?_ ?_)); exact kr) | (with_reducible refine zE ?_) | ((with_reducible apply zP); (first | exact o_nat3 (sub64_N _ _ 0 (by decide)) rfl rfl rfl | exact o_nat3 (sub64_N _ _ _ (by exact c1)) rfl rfl rfl | exact o_eqlB rfl rfl | exact dp | exact oc rfl (hl))) | ((with_reducible apply zN); exact dn) | ((with_reducible apply zA); exact da) | ((with_reducible apply zS); exact ds) | ((with_reducible apply zY); exact rfl; exact rfl; exact tf) | ((with_reducible apply zG); exact rfl; exact rfl; exact tf) | ((with_reducible apply zU); exact rfl; exact rfl) | ((with_reducible apply zD); exact rfl; exact rfl) | ((with_reducible apply zB); exact rfl; exact rfl)))
      ((with_reducible first | apply q_retR | apply q_retN); exact rl)
      rfl
  · have hl : AC Tryz.prog 82 [WV (m, s), WV (n, t)] (B false) := by rw [← decide_eq_false hmn]; exact hl
    have e : plW (m, s) (n, t) = (m - n, s) := by
      show (bif s == t then (m + n, s) else bif decide (m < n) then (n - m, t) else (m - n, s)) = _
      rw [hst', decide_eq_false hmn]; rfl
    have e1 := sub_hi m n (by omega) (by omega)
    have e2 : (m % 18446744073709551616 + 18446744073709551616 - n % 18446744073709551616 - 0) % 18446744073709551616 = (m - n) % 18446744073709551616 := by omega
    have c1 : (if m % 18446744073709551616 < n % 18446744073709551616 + 0 then 1 else 0) ≤ 1 := by split <;> omega
    rw [e]
    show AC _ _ _ (.agg [U ((m - n) / 18446744073709551616), U ((m - n) % 18446744073709551616), B s])
    rw [← e1, ← e2]
    clear e1 e2 e h
    cases s <;> cases t
    all_goals first | exact absurd rfl hst | skip
    all_goals
      refine ac_body Tryz.func40 rfl (by kernel_rfl) fun w0 ok => ?_; show AWp _ (ctx0 w0 ok _) _ (ARet _ _ _) (entry _)
      (repeat' (first | (with_reducible first | intro hg | refine mv (by constructor) ?_) | ((with_reducible first | refine zR ?_ ?_ | refine zW mixed ?_ ?_); exact kr) | ((with_reducible apply zK); exact rfl; exact tf) | ((with_reducible apply zCD); exact rfl) | ((with_reducible apply zCN); exact rfl) | ((with_reducible apply zC); exact rfl) | ((with_reducible refine zX ?_ ?_); exact rfl) | ((with_reducible refine zE (And.intro ?_ ?_)); exact kr) | (with_reducible refine zE ?_) | ((with_reducible apply zP); (first | exact o_nat3 (sub64_N _ _ 0 (by decide)) rfl rfl rfl | exact o_nat3 (sub64_N _ _ _ (by exact c1)) rfl rfl rfl | exact o_eqlB rfl rfl | exact dp | exact oc rfl (hl))) | ((with_reducible apply zN); exact dn) | ((with_reducible apply zA); exact da) | ((with_reducible apply zS); exact ds) | ((with_reducible apply zY); exact rfl; exact rfl; exact tf) | ((with_reducible apply zG); exact rfl; exact rfl; exact tf) | ((with_reducible apply zU); exact rfl; exact rfl) | ((with_reducible apply zD); exact rfl; exact rfl) | ((with_reducible apply zB); exact rfl; exact rfl)))
      ((with_reducible first | apply q_retR | apply q_retN); exact rl)
      rfl

end Go.Proofs.YtfcfmpdpjmbcnaaGreat
