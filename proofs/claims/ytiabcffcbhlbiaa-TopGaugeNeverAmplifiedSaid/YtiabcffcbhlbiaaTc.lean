/- The norm of a proof, exact loops. -/
import Derived.Test.YtiabcffcbhlbiaaTb
import Derived.Test.YtiabcffcbhlbiaaUe
set_option linter.unusedVariables false
set_option linter.unusedSimpArgs false
namespace Go.Proofs.Ytiabcffcbhlbiaa
open Go.RowKit
set_option maxRecDepth 20000
set_option maxHeartbeats 8000000

theorem prf1_A (n : Int) : AC Try.prog 81 ([I n] ++ []) (B (!inR n 1 10)) := by
  refine ac_body Try.func81 rfl (by kernel_rfl) fun w0 ok => ?_; show AWp _ (ctx0 w0 ok _) _ (ARet _ _ _) (entry _)
  (repeat' (first | (with_reducible first | intro hg | refine mv (by constructor) ?_) | ((with_reducible first | refine zR ?_ ?_ | refine zW mixed ?_ ?_); exact kr) | ((with_reducible apply zK); exact rfl; exact tf) | ((with_reducible apply zCD); exact rfl) | ((with_reducible apply zCN); exact rfl) | ((with_reducible apply zC); exact rfl) | ((with_reducible refine zX ?_ ?_); exact rfl) | ((with_reducible refine zE (And.intro ?_ ?_)); exact kr) | (with_reducible refine zE ?_) | ((with_reducible apply zP); (first | exact dp | exact oc rfl (within_A _ _ _))) | ((with_reducible apply zN); exact dn) | ((with_reducible apply zA); exact da) | ((with_reducible apply zS); exact ds) | ((with_reducible apply zY); exact rfl; exact rfl; exact tf) | ((with_reducible apply zG); exact rfl; exact rfl; exact tf) | ((with_reducible apply zU); exact rfl; exact rfl) | ((with_reducible apply zD); exact rfl; exact rfl) | ((with_reducible apply zB); exact rfl; exact rfl)))
  ((with_reducible first | apply q_retR | apply q_retN); exact rl)
  rfl
theorem proofErr_ok (c : List Rg) (den : Int) (h : loE c den = 0) (s : Nat) (w : List Int) (hp : PrfOk c.length s w) : AC Try.prog 52 [.agg [rgV c, I den], .agg (prfC s w)] (I 0) := by
  have hL := loE_ok h
  have w1 := checkLoop_A c den (by have := hL.l3; omega)
  rw [h] at w1
  have hl := hp.l
  have hwl : w.length ≤ 140737488355328 := by have := hL.l3; omega
  have w2 := containsFunc_A 81 (EntI.eq (P := Try.prog) (f := 81)) .val (fun n => !inR n 1 10) w hwl (fun x _ => prf1_A x)
  have e2 : (w.any fun n => !inR n 1 10) = false := by
    rw [List.any_eq_false]
    intro x hx
    rw [inR_true.2 (hp.w x hx)]; decide
  rw [e2] at w2
  have w3 := within_A s 1 6
  rw [inR_true.2 (by have := hp.s1; have := hp.s6; omega)] at w3
  have u1 : AC Try.prog 43 [B (decide ((w.length : Int) = (c.length : Int))), I 10] (I 0) := by
    rw [decide_eq_true (by omega)]
    exact unless_A _ _
  refine ac_body Try.func52 rfl (by kernel_rfl) fun w0 ok => ?_; show AWp _ (ctx0 w0 ok _) _ (ARet _ _ _) (entry _)
  (repeat' (first | (with_reducible first | intro hg | refine mv (by constructor) ?_) | ((with_reducible first | refine zR ?_ ?_ | refine zW mixed ?_ ?_); exact kr) | ((with_reducible apply zK); exact rfl; exact tf) | ((with_reducible apply zCD); exact rfl) | ((with_reducible apply zCN); exact rfl) | ((with_reducible apply zC); exact rfl) | ((with_reducible refine zX ?_ ?_); exact rfl) | ((with_reducible refine zE (And.intro ?_ ?_)); exact kr) | (with_reducible refine zE ?_) | ((with_reducible apply zP); (first | exact dp | exact oc rfl (w1) | exact oc rfl (w2) | exact oc rfl (w3) | exact oc rfl (u1) | exact oc rfl (unless_A _ _) | exact oc rfl (first4_A _ _ _ _))) | ((with_reducible apply zN); exact dn) | ((with_reducible apply zA); exact da) | ((with_reducible apply zS); exact ds) | ((with_reducible apply zY); exact rfl; exact rfl; exact tf) | ((with_reducible apply zG); exact rfl; exact rfl; exact tf) | ((with_reducible apply zU); exact rfl; exact rfl) | ((with_reducible apply zD); exact rfl; exact rfl) | ((with_reducible apply zB); exact rfl; exact rfl)))
  ((with_reducible first | apply q_retR | apply q_retN); exact rl)
  rfl
theorem normOf_ok (c : List Rg) (den : Int) (h : loE c den = 0) (s : Nat) (w : List Int) (hp : PrfOk c.length s w) (x : Fr) (hx : normF (powM c den c.length s) w (den ^ s) c.length c.length = x) (x1 : x.1.natAbs ≤ 100000000000) (x2 : 0 < x.2 ∧ x.2 ≤ 10000000) :
    AC Try.prog 38 [.agg [rgV c, I den], .agg (prfC s w)] (.tuple [F2 (frcR x.1 x.2).1, I (frcR x.1 x.2).2]) := by
  have w1 := proofErr_ok c den h s w hp
  have w2 := norm_A c den (loE_ok h) s w hp
  rw [hx] at w2
  have w3 := fraction_A x.1 x.2 ⟨by omega, by omega⟩ x2.1 (by omega)
  refine ac_body Try.func38 rfl (by kernel_rfl) fun w0 ok => ?_; show AWp _ (ctx0 w0 ok _) _ (ARet _ _ _) (entry _)
  (repeat' (first | (with_reducible first | intro hg | refine mv (by constructor) ?_) | ((with_reducible first | refine zR ?_ ?_ | refine zW mixed ?_ ?_); exact kr) | ((with_reducible apply zK); exact rfl; exact tf) | ((with_reducible apply zCD); exact rfl) | ((with_reducible apply zCN); exact rfl) | ((with_reducible apply zC); exact rfl) | ((with_reducible refine zX ?_ ?_); exact rfl) | ((with_reducible refine zE (And.intro ?_ ?_)); exact kr) | (with_reducible refine zE ?_) | ((with_reducible apply zP); (first | exact dp | exact oc rfl (w1) | exact oc rfl (w2) | exact oc rfl (w3))) | ((with_reducible apply zN); exact dn) | ((with_reducible apply zA); exact da) | ((with_reducible apply zS); exact ds) | ((with_reducible apply zY); exact rfl; exact rfl; exact tf) | ((with_reducible apply zG); exact rfl; exact rfl; exact tf) | ((with_reducible apply zU); exact rfl; exact rfl) | ((with_reducible apply zD); exact rfl; exact rfl) | ((with_reducible apply zB); exact rfl; exact rfl)))
  ((with_reducible first | apply q_retR | apply q_retN); exact rl)
  rfl
theorem settles_A (f : Fr) : AC Try.prog 54 [F2 f] (B (decide (f.1 < f.2))) := by
  refine ac_body Try.func54 rfl (by kernel_rfl) fun w0 ok => ?_; show AWp _ (ctx0 w0 ok _) _ (ARet _ _ _) (entry _)
  (repeat' (first | (with_reducible first | intro hg | refine mv (by constructor) ?_) | ((with_reducible first | refine zR ?_ ?_ | refine zW mixed ?_ ?_); exact kr) | ((with_reducible apply zK); exact rfl; exact tf) | ((with_reducible apply zCD); exact rfl) | ((with_reducible apply zCN); exact rfl) | ((with_reducible apply zC); exact rfl) | ((with_reducible refine zX ?_ ?_); exact rfl) | ((with_reducible refine zE (And.intro ?_ ?_)); exact kr) | (with_reducible refine zE ?_) | ((with_reducible apply zP); exact dp) | ((with_reducible apply zN); exact dn) | ((with_reducible apply zA); exact da) | ((with_reducible apply zS); exact ds) | ((with_reducible apply zY); exact rfl; exact rfl; exact tf) | ((with_reducible apply zG); exact rfl; exact rfl; exact tf) | ((with_reducible apply zU); exact rfl; exact rfl) | ((with_reducible apply zD); exact rfl; exact rfl) | ((with_reducible apply zB); exact rfl; exact rfl)))
  ((with_reducible first | apply q_retR | apply q_retN); exact rl)
  rfl
/-! Exact loops. -/
end Go.Proofs.Ytiabcffcbhlbiaa
