/- Harmonics: the reference of quarters, and the law. -/
import Derived.Test.YtemihhkbieplmaaHb
import Derived.Test.YtemihhkbieplmaaBx
set_option linter.unusedVariables false
set_option linter.unusedSimpArgs false
namespace Go.Proofs.Ytemihhkbieplmaa
open Go.RowKit
set_option maxRecDepth 20000
set_option maxHeartbeats 8000000

theorem bquarters_A (a0 a1 a2 a3 a4 a5 a6 a7 : Int) (res : DV) (h3 : ¬ In8 a0 a1 a2 a3 a4 a5 a6 a7 → res = .tuple [.agg [I 0, I 0, I 0, I 0], I 2]) (h2 : In8 a0 a1 a2 a3 a4 a5 a6 a7 → ¬ Gd8 a0 a1 a2 a3 a4 a5 a6 a7 → res = .tuple [.agg [I 0, I 0, I 0, I 0], I 3]) (h1 : In8 a0 a1 a2 a3 a4 a5 a6 a7 → Gd8 a0 a1 a2 a3 a4 a5 a6 a7 → res = .tuple [.agg (Qr8 a0 a1 a2 a3 a4 a5 a6 a7), I 0]) :
    AC Try.prog 74 [.agg [I a0, I a1, I a2, I a3, I a4, I a5, I a6, I a7]] res := by
  by_cases hin : In8 a0 a1 a2 a3 a4 a5 a6 a7
  · obtain ⟨b0, b1, b2, b3, b4, b5, b6, b7⟩ := in8_bnd _ _ _ _ _ _ _ _ hin
    have c0 : -1000000000 ≤ a0 ∧ a0 ≤ 1000000000 := by omega
    clear b0
    have c1 : -1000000000 ≤ a1 ∧ a1 ≤ 1000000000 := by omega
    clear b1
    have c2 : -1000000000 ≤ a2 ∧ a2 ≤ 1000000000 := by omega
    clear b2
    have c3 : -1000000000 ≤ a3 ∧ a3 ≤ 1000000000 := by omega
    clear b3
    have c4 : -1000000000 ≤ a4 ∧ a4 ≤ 1000000000 := by omega
    clear b4
    have c5 : -1000000000 ≤ a5 ∧ a5 ≤ 1000000000 := by omega
    clear b5
    have c6 : -1000000000 ≤ a6 ∧ a6 ≤ 1000000000 := by omega
    clear b6
    have c7 : -1000000000 ≤ a7 ∧ a7 ≤ 1000000000 := by omega
    clear b7
    obtain ⟨x0, x1, x2, x3, x4, x5, x6, x7⟩ := id hin
    have u0 := bwithin_A a0 (-1000000000) 1000000000
    rw [x0] at u0
    have u1 := bwithin_A a1 (-1000000000) 1000000000
    rw [x1] at u1
    have u2 := bwithin_A a2 (-1000000000) 1000000000
    rw [x2] at u2
    have u3 := bwithin_A a3 (-1000000000) 1000000000
    rw [x3] at u3
    have u4 := bwithin_A a4 (-1000000000) 1000000000
    rw [x4] at u4
    have u5 := bwithin_A a5 (-1000000000) 1000000000
    rw [x5] at u5
    have u6 := bwithin_A a6 (-1000000000) 1000000000
    rw [x6] at u6
    have u7 := bwithin_A a7 (-1000000000) 1000000000
    rw [x7] at u7
    refine ac_body Try.func74 rfl (Nat.le_of_ble_eq_true (by kernel_rfl)) fun w0 ok => ?_; show AWp _ ⟨w0, ok, _⟩ _ (ARet _ _ _) (entry _)
    (repeat' (first | (with_reducible first | intro hg | refine awp_seq ?_ | refine q_seq ?_ | refine q_blk ?_ | refine awp_block ?_ | refine awp_skip ?_ | refine awp_ret ?_ | refine awp_exit ?_ | refine q_seqE ?_ | refine q_seqR ?_ | refine q_blkR ?_ | refine q_blkE ?_ | refine awp_loopU ?_ | refine awpL_step ?_) | ((with_reducible refine awp_region ?_ ?_); (focus exact kr)) | ((with_reducible refine awp_region_any mixed ?_ ?_); (focus exact kr)) | ((with_reducible apply awp_condT); (focus exact rfl); (focus exact tt)) | ((with_reducible apply awp_condF); (focus exact rfl); (focus exact ff)) | ((with_reducible apply awp_condD); (focus exact rfl)) | ((with_reducible apply awp_condN); (focus exact rfl)) | ((with_reducible apply awp_cond); (focus exact rfl)) | ((with_reducible refine q_blkX ?_ ?_); (focus exact rfl)) | ((with_reducible refine r_nil (And.intro ?_ ?_)); (focus exact kr)) | (with_reducible refine r_nil ?_) | ((with_reducible apply r_put); (focus (first | exact o_rem (r := 0) rfl rfl (by omega) (by decide) | exact o_rem (r := 1) rfl rfl (by omega) (by decide) | exact o_rem (r := 2) rfl rfl (by omega) (by decide) | exact o_rem (r := 3) rfl rfl (by omega) (by decide) | exact o_rem (r := -1) rfl rfl (by omega) (by decide) | exact o_rem (r := -2) rfl rfl (by omega) (by decide) | exact o_rem (r := -3) rfl rfl (by omega) (by decide) | exact dp | exact oc rfl (u0) | exact oc rfl (u1) | exact oc rfl (u2) | exact oc rfl (u3) | exact oc rfl (u4) | exact oc rfl (u5) | exact oc rfl (u6) | exact oc rfl (u7) | exact oc rfl (times0_A _ _) | exact oc rfl (times1_A _ _ (by omega) (by omega)) | exact oc rfl (times2_A _ _ (by omega) (by omega)) | exact oc rfl (times3_A _ _ (by omega) (by omega)) | exact oc rfl (gadd_A _ _ _ _ (by omega) (by omega) (by omega) (by omega))))) | ((with_reducible apply r_new); (focus exact dn)) | ((with_reducible apply r_app); (focus exact da)) | ((with_reducible apply r_set); (focus (first | exact st8 (new := [_, _, _, _, _, _, _, _]) | exact st8 (new := [_, _]) | exact st8 (new := [_, _, _, _]) | exact ds))) | ((with_reducible apply r_putY); (focus exact rfl); (focus exact rfl); (focus exact tf); (focus (first | exact o_rem (r := 0) rfl rfl (by omega) (by decide) | exact o_rem (r := 1) rfl rfl (by omega) (by decide) | exact o_rem (r := 2) rfl rfl (by omega) (by decide) | exact o_rem (r := 3) rfl rfl (by omega) (by decide) | exact o_rem (r := -1) rfl rfl (by omega) (by decide) | exact o_rem (r := -2) rfl rfl (by omega) (by decide) | exact o_rem (r := -3) rfl rfl (by omega) (by decide) | exact dp | exact oc rfl (u0) | exact oc rfl (u1) | exact oc rfl (u2) | exact oc rfl (u3) | exact oc rfl (u4) | exact oc rfl (u5) | exact oc rfl (u6) | exact oc rfl (u7) | exact oc rfl (times0_A _ _) | exact oc rfl (times1_A _ _ (by omega) (by omega)) | exact oc rfl (times2_A _ _ (by omega) (by omega)) | exact oc rfl (times3_A _ _ (by omega) (by omega)) | exact oc rfl (gadd_A _ _ _ _ (by omega) (by omega) (by omega) (by omega))))) | ((with_reducible apply r_newY); (focus exact rfl); (focus exact rfl); (focus exact tf); (focus exact dn)) | ((with_reducible apply r_noT); (focus exact rfl); (focus exact rfl); (focus exact ff)) | ((with_reducible apply r_noF); (focus exact rfl); (focus exact rfl); (focus exact tt)) | ((with_reducible apply r_splitD); (focus exact rfl); (focus exact rfl)) | ((with_reducible apply r_split); (focus exact rfl); (focus exact rfl))))
    all_goals
      ((with_reducible first | apply q_retR | apply q_retN); (focus exact rl))
      first
        | (rw [h1 hin (by refine ⟨⟨?_, ?_⟩, ⟨?_, ?_⟩, ⟨?_, ?_⟩, ⟨?_, ?_⟩⟩ <;> (first | assumption | (apply Decidable.of_not_not; assumption)))]; rfl)
        | (rw [h2 hin (fun h => by obtain ⟨⟨y0, y1⟩, ⟨y2, y3⟩, ⟨y4, y5⟩, ⟨y6, y7⟩⟩ := h; clear h1 h2 h3 hin; contradiction)]; rfl)
  · refine ac_body Try.func74 rfl (Nat.le_of_ble_eq_true (by kernel_rfl)) fun w0 ok => ?_; show AWp _ ⟨w0, ok, _⟩ _ (ARet _ _ _) (entry _)
    (repeat' (first | (with_reducible first | intro hg | refine awp_seq ?_ | refine q_seq ?_ | refine q_blk ?_ | refine awp_block ?_ | refine awp_skip ?_ | refine awp_ret ?_ | refine awp_exit ?_ | refine q_seqE ?_ | refine q_seqR ?_ | refine q_blkR ?_ | refine q_blkE ?_ | refine awp_loopU ?_ | refine awpL_step ?_) | ((with_reducible refine awp_region ?_ ?_); (focus exact kr)) | ((with_reducible refine awp_region_any mixed ?_ ?_); (focus exact kr)) | ((with_reducible apply awp_condT); (focus exact rfl); (focus exact tt)) | ((with_reducible apply awp_condF); (focus exact rfl); (focus exact ff)) | ((with_reducible apply awp_condD); (focus exact rfl)) | ((with_reducible apply awp_condN); (focus exact rfl)) | ((with_reducible apply awp_cond); (focus exact rfl)) | ((with_reducible refine q_blkX ?_ ?_); (focus exact rfl)) | ((with_reducible refine r_nil (And.intro ?_ ?_)); (focus exact kr)) | (with_reducible refine r_nil ?_) | ((with_reducible apply r_put); (focus (first | exact dp | exact oc rfl (bwithin_A _ (-1000000000) 1000000000)))) | ((with_reducible apply r_new); (focus exact dn)) | ((with_reducible apply r_app); (focus exact da)) | ((with_reducible apply r_set); (focus exact ds)) | ((with_reducible apply r_putY); (focus exact rfl); (focus exact rfl); (focus exact tf); (focus (first | exact dp | exact oc rfl (bwithin_A _ (-1000000000) 1000000000)))) | ((with_reducible apply r_newY); (focus exact rfl); (focus exact rfl); (focus exact tf); (focus exact dn)) | ((with_reducible apply r_noT); (focus exact rfl); (focus exact rfl); (focus exact ff)) | ((with_reducible apply r_noF); (focus exact rfl); (focus exact rfl); (focus exact tt)) | ((with_reducible apply r_splitD); (focus exact rfl); (focus exact rfl)) | ((with_reducible apply r_split); (focus exact rfl); (focus exact rfl))))
    all_goals first | (((with_reducible first | apply q_retR | apply q_retN); (focus exact rl)); rw [h3 hin]; rfl) | exact absurd (by refine ⟨?_, ?_, ?_, ?_, ?_, ?_, ?_, ?_⟩ <;> (first | assumption | exact nt_false (by assumption))) hin

end Go.Proofs.Ytemihhkbieplmaa
