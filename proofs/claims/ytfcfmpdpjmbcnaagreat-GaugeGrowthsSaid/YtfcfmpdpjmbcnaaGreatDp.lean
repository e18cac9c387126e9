/- Wide numbers (chapter 5): quotients. -/
import Derived.Test.YtfcfmpdpjmbcnaaGreatDn
import Derived.Test.YtfcfmpdpjmbcnaaGreatDo
set_option linter.unusedVariables false
set_option linter.unusedSimpArgs false
namespace Go.Proofs.YtfcfmpdpjmbcnaaGreat
open Go.RowKit
set_option maxRecDepth 20000
set_option maxHeartbeats 8000000

theorem dsplit {A B C : Nat} (h : A = B * 18446744073709551616 + C) (hC : C < 18446744073709551616) : A / 18446744073709551616 = B ∧ A % 18446744073709551616 = C := by omega
theorem over_A (w : Wd) (n : Nat) (h0 : 0 < n) (hn : n < 18446744073709551616) (hw : w.1 < 340282366920938463463374607431768211456) : AC Tryz.prog 42 [WV w, U n] (.tuple [WV (ovW w n), U (w.1 % n)]) := by
  obtain ⟨hi, hhi⟩ : ∃ a, a = w.1 / 18446744073709551616 := ⟨_, rfl⟩
  obtain ⟨lo, hlo⟩ : ∃ a, a = w.1 % 18446744073709551616 := ⟨_, rfl⟩
  have e : w.1 = hi * 18446744073709551616 + lo := by omega
  have b := dv_half hi n 18446744073709551616 lo h0 (by omega)
  obtain ⟨t1, t2⟩ := dv_two hi n 18446744073709551616 lo h0
  have hdv := div64_A (hi % n) lo n (Nat.mod_lt _ h0) (by omega) hn
  rw [← e] at t1 t2
  obtain ⟨d1, d2⟩ := dsplit t1 b
  show AC _ _ [.agg [U (w.1 / 18446744073709551616), U (w.1 % 18446744073709551616), B w.2], U n] (.tuple [.agg [U (w.1 / n / 18446744073709551616), U (w.1 / n % 18446744073709551616), B w.2], U (w.1 % n)])
  rw [d1, d2, t2, ← hhi, ← hlo]
  have hhl : hi < 18446744073709551616 := by omega
  clear d1 d2 t1 t2 e b hw hhi hlo
  refine ac_body Tryz.func42 rfl (by kernel_rfl) fun w0 ok => ?_; show AWp _ (ctx0 w0 ok _) _ (ARet _ _ _) (entry _)
  (repeat' (first | (with_reducible first | intro hg | refine mv (by constructor) ?_) | ((with_reducible first | refine zR ?_ ?_ | refine zW mixed ?_ ?_); exact kr) | ((with_reducible apply zK); exact rfl; exact tf) | ((with_reducible apply zCD); exact rfl) | ((with_reducible apply zCN); exact rfl) | ((with_reducible apply zC); exact rfl) | ((with_reducible refine zX ?_ ?_); exact rfl) | ((with_reducible refine zE (And.intro ?_ ?_)); exact kr) | (with_reducible refine zE ?_) | ((with_reducible apply zP); (first | exact o_quoV h0 hhl rfl rfl | exact o_remV h0 rfl rfl | exact dp | exact oc rfl (hdv))) | ((with_reducible apply zN); exact dn) | ((with_reducible apply zA); exact da) | ((with_reducible apply zS); exact ds) | ((with_reducible apply zY); exact rfl; exact rfl; exact tf) | ((with_reducible apply zG); exact rfl; exact rfl; exact tf) | ((with_reducible apply zU); exact rfl; exact rfl) | ((with_reducible apply zD); exact rfl; exact rfl) | ((with_reducible apply zB); exact rfl; exact rfl)))
  ((with_reducible first | apply q_retR | apply q_retN); exact rl)
  rfl

end Go.Proofs.YtfcfmpdpjmbcnaaGreat
