/- The law RollMarked: what it answers. -/
import Derived.Test.YtemihhkbieplmaaEa
import Derived.Test.YtemihhkbieplmaaBx
set_option linter.unusedVariables false
set_option linter.unusedSimpArgs false
namespace Go.Proofs.Ytemihhkbieplmaa
open Go.RowKit
set_option maxRecDepth 20000
set_option maxHeartbeats 4000000

theorem rollMarked_A (xs : List Int) (t r : Int) (hm : xs.length ≤ 140737488355328) : AC Try.prog 8 [marksV xs t, I r] (B true) := by
  have aw := awake_A
  by_cases hf : (xs.length : Int) ≤ 32
  · have cp := copyMarks_A xs t (by omega)
    have c1 := checkMarks_A xs t hm
    have b1 := bcheckMarks_A xs t hm
    by_cases h1 : (chkM xs t).2 = 0
    · have hk := chk_ok h1
      obtain ⟨k1, k2, k3, k4, k5, _⟩ := id hk
      have b2 := broundErr_A xs t r (by omega)
      by_cases h2 : rndErr t r = 0
      · obtain ⟨⟨r1, r2⟩, r3⟩ := rnd_ok h2
        have hpe : phE xs t r = unl (phOk xs t r (allM xs)) 12 := by unfold phE; rw [h1, h2, fst0_zero, fst0_zero, fst0_one]
        have ba := ball_A xs t (by omega)
        cases hok : phOk xs t r (allM xs)
        · have hpe2 : phE xs t r = 12 := by rw [hpe, hok]; rfl
          have c2 := phaseOf_err xs t r hm (by rw [hpe2]; decide)
          have c3 := expected_err xs t r hm (by rw [hpe2]; decide)
          rw [hpe2] at c2 c3
          have b3 := bphases_A xs t r (allM xs) (allM_ok (by omega) (by omega)) k5 k3 k4 r3 r2 _ (fun h => by rw [hok] at h; cases h) (fun _ => rfl)
          refine ac_body Try.func8 rfl (Nat.le_of_ble_eq_true (by kernel_rfl)) fun w0 ok => ?_; show AWp _ ⟨w0, ok, _⟩ _ (ARet _ _ _) (entry _)
          (repeat' (first | (with_reducible first | intro hg | refine awp_seq ?_ | refine q_seq ?_ | refine q_blk ?_ | refine awp_block ?_ | refine awp_skip ?_ | refine awp_ret ?_ | refine awp_exit ?_ | refine q_seqE ?_ | refine q_seqR ?_ | refine q_blkR ?_ | refine q_blkE ?_) | ((with_reducible refine awp_region ?_ ?_); (focus exact kr)) | ((with_reducible refine awp_region_any mixed ?_ ?_); (focus exact kr)) | ((with_reducible apply awp_condT); (focus exact rfl); (focus exact tt)) | ((with_reducible apply awp_condF); (focus exact rfl); (focus exact ff)) | ((with_reducible apply awp_condD); (focus exact rfl)) | ((with_reducible apply awp_condN); (focus exact rfl)) | ((with_reducible apply awp_cond); (focus exact rfl)) | ((with_reducible refine q_blkX ?_ ?_); (focus exact rfl)) | ((with_reducible refine r_nil (And.intro ?_ ?_)); (focus exact kr)) | (with_reducible refine r_nil ?_) | ((with_reducible apply r_put); (focus (first | exact o_eqlS rfl rfl rfl rfl | exact dp | exact oc rfl (aw) | exact oc rfl (cp) | exact oc rfl (c1) | exact oc rfl (c2) | exact oc rfl (c3) | exact oc rfl (b1) | exact oc rfl (b2) | exact oc rfl (ba) | exact oc rfl (b3)))) | ((with_reducible apply r_new); (focus exact dn)) | ((with_reducible apply r_app); (focus exact da)) | ((with_reducible apply r_set); (focus exact ds)) | ((with_reducible apply r_putY); (focus exact rfl); (focus exact rfl); (focus exact tf); (focus (first | exact o_eqlS rfl rfl rfl rfl | exact dp | exact oc rfl (aw) | exact oc rfl (cp) | exact oc rfl (c1) | exact oc rfl (c2) | exact oc rfl (c3) | exact oc rfl (b1) | exact oc rfl (b2) | exact oc rfl (ba) | exact oc rfl (b3)))) | ((with_reducible apply r_newY); (focus exact rfl); (focus exact rfl); (focus exact tf); (focus exact dn)) | ((with_reducible apply r_noT); (focus exact rfl); (focus exact rfl); (focus exact ff)) | ((with_reducible apply r_noF); (focus exact rfl); (focus exact rfl); (focus exact tt)) | ((with_reducible apply r_splitD); (focus exact rfl); (focus exact rfl)) | ((with_reducible apply r_split); (focus exact rfl); (focus exact rfl))))
          ((with_reducible first | apply q_retR | apply q_retN); (focus exact rl))
          rfl
        · have hpe2 : phE xs t r = 0 := by rw [hpe, hok]; rfl
          have hb := phLo_bnd (xs := xs) (t := t) (is := allM xs) (show 0 < r by omega)
          have c2 := phaseOf_ok xs t r hpe2
          have c3 := expected_ok xs t r hpe2
          have b3 := bphases_A xs t r (allM xs) (allM_ok (by omega) (by omega)) k5 k3 k4 r3 r2 _ (fun _ => rfl) (fun h => by rw [hok] at h; cases h)
          have b4 := bmissing_A xs t r (phLo xs t r (allM xs)) hk r1 r2 (by omega)
          have hl1 := misTo_len xs t r (phLo xs t r (allM xs)) (misCnt xs r (phLo xs t r (allM xs)))
          have hl2 := misCnt_le (ph := phLo xs t r (allM xs)) hk r1
          have hint := ints_same (misL xs t r (phLo xs t r (allM xs))) (by unfold misL; omega)
          refine ac_body Try.func8 rfl (Nat.le_of_ble_eq_true (by kernel_rfl)) fun w0 ok => ?_; show AWp _ ⟨w0, ok, _⟩ _ (ARet _ _ _) (entry _)
          (repeat' (first | (with_reducible first | intro hg | refine awp_seq ?_ | refine q_seq ?_ | refine q_blk ?_ | refine awp_block ?_ | refine awp_skip ?_ | refine awp_ret ?_ | refine awp_exit ?_ | refine q_seqE ?_ | refine q_seqR ?_ | refine q_blkR ?_ | refine q_blkE ?_) | ((with_reducible refine awp_region ?_ ?_); (focus exact kr)) | ((with_reducible refine awp_region_any mixed ?_ ?_); (focus exact kr)) | ((with_reducible apply awp_condT); (focus exact rfl); (focus exact tt)) | ((with_reducible apply awp_condF); (focus exact rfl); (focus exact ff)) | ((with_reducible apply awp_condD); (focus exact rfl)) | ((with_reducible apply awp_condN); (focus exact rfl)) | ((with_reducible apply awp_cond); (focus exact rfl)) | ((with_reducible refine q_blkX ?_ ?_); (focus exact rfl)) | ((with_reducible refine r_nil (And.intro ?_ ?_)); (focus exact kr)) | (with_reducible refine r_nil ?_) | ((with_reducible apply r_put); (focus (first | exact o_eqlS rfl rfl rfl rfl | exact dp | exact oc rfl (aw) | exact oc rfl (cp) | exact oc rfl (c1) | exact oc rfl (c2) | exact oc rfl (c3) | exact oc rfl (b1) | exact oc rfl (b2) | exact oc rfl (ba) | exact oc rfl (b3) | exact oc rfl (b4) | exact oc rfl (hint)))) | ((with_reducible apply r_new); (focus exact dn)) | ((with_reducible apply r_app); (focus exact da)) | ((with_reducible apply r_set); (focus exact ds)) | ((with_reducible apply r_putY); (focus exact rfl); (focus exact rfl); (focus exact tf); (focus (first | exact o_eqlS rfl rfl rfl rfl | exact dp | exact oc rfl (aw) | exact oc rfl (cp) | exact oc rfl (c1) | exact oc rfl (c2) | exact oc rfl (c3) | exact oc rfl (b1) | exact oc rfl (b2) | exact oc rfl (ba) | exact oc rfl (b3) | exact oc rfl (b4) | exact oc rfl (hint)))) | ((with_reducible apply r_newY); (focus exact rfl); (focus exact rfl); (focus exact tf); (focus exact dn)) | ((with_reducible apply r_noT); (focus exact rfl); (focus exact rfl); (focus exact ff)) | ((with_reducible apply r_noF); (focus exact rfl); (focus exact rfl); (focus exact tt)) | ((with_reducible apply r_splitD); (focus exact rfl); (focus exact rfl)) | ((with_reducible apply r_split); (focus exact rfl); (focus exact rfl))))
          ((with_reducible first | apply q_retR | apply q_retN); (focus exact rl))
          rfl
      · have hpe : phE xs t r = rndErr t r := by unfold phE; rw [h1, fst0_zero, fst0_ne h2]
        have c2 := phaseOf_err xs t r hm (by rw [hpe]; exact h2)
        have c3 := expected_err xs t r hm (by rw [hpe]; exact h2)
        rw [hpe] at c2 c3
        refine ac_body Try.func8 rfl (Nat.le_of_ble_eq_true (by kernel_rfl)) fun w0 ok => ?_; show AWp _ ⟨w0, ok, _⟩ _ (ARet _ _ _) (entry _)
        (repeat' (first | (with_reducible first | intro hg | refine awp_seq ?_ | refine q_seq ?_ | refine q_blk ?_ | refine awp_block ?_ | refine awp_skip ?_ | refine awp_ret ?_ | refine awp_exit ?_ | refine q_seqE ?_ | refine q_seqR ?_ | refine q_blkR ?_ | refine q_blkE ?_) | ((with_reducible refine awp_region ?_ ?_); (focus exact kr)) | ((with_reducible refine awp_region_any mixed ?_ ?_); (focus exact kr)) | ((with_reducible apply awp_condT); (focus exact rfl); (focus exact tt)) | ((with_reducible apply awp_condF); (focus exact rfl); (focus exact ff)) | ((with_reducible apply awp_condD); (focus exact rfl)) | ((with_reducible apply awp_condN); (focus exact rfl)) | ((with_reducible apply awp_cond); (focus exact rfl)) | ((with_reducible refine q_blkX ?_ ?_); (focus exact rfl)) | ((with_reducible refine r_nil (And.intro ?_ ?_)); (focus exact kr)) | (with_reducible refine r_nil ?_) | ((with_reducible apply r_put); (focus (first | exact o_eqlS rfl rfl rfl rfl | exact dp | exact oc rfl (aw) | exact oc rfl (cp) | exact oc rfl (c1) | exact oc rfl (c2) | exact oc rfl (c3) | exact oc rfl (b1) | exact oc rfl (b2)))) | ((with_reducible apply r_new); (focus exact dn)) | ((with_reducible apply r_app); (focus exact da)) | ((with_reducible apply r_set); (focus exact ds)) | ((with_reducible apply r_putY); (focus exact rfl); (focus exact rfl); (focus exact tf); (focus (first | exact o_eqlS rfl rfl rfl rfl | exact dp | exact oc rfl (aw) | exact oc rfl (cp) | exact oc rfl (c1) | exact oc rfl (c2) | exact oc rfl (c3) | exact oc rfl (b1) | exact oc rfl (b2)))) | ((with_reducible apply r_newY); (focus exact rfl); (focus exact rfl); (focus exact tf); (focus exact dn)) | ((with_reducible apply r_noT); (focus exact rfl); (focus exact rfl); (focus exact ff)) | ((with_reducible apply r_noF); (focus exact rfl); (focus exact rfl); (focus exact tt)) | ((with_reducible apply r_splitD); (focus exact rfl); (focus exact rfl)) | ((with_reducible apply r_split); (focus exact rfl); (focus exact rfl))))
        ((with_reducible first | apply q_retR | apply q_retN); (focus exact rl))
        rfl
    · have hpe : phE xs t r = (chkM xs t).2 := by unfold phE; rw [fst0_ne h1]
      have c2 := phaseOf_err xs t r hm (by rw [hpe]; exact h1)
      have c3 := expected_err xs t r hm (by rw [hpe]; exact h1)
      rw [hpe] at c2 c3
      refine ac_body Try.func8 rfl (Nat.le_of_ble_eq_true (by kernel_rfl)) fun w0 ok => ?_; show AWp _ ⟨w0, ok, _⟩ _ (ARet _ _ _) (entry _)
      (repeat' (first | (with_reducible first | intro hg | refine awp_seq ?_ | refine q_seq ?_ | refine q_blk ?_ | refine awp_block ?_ | refine awp_skip ?_ | refine awp_ret ?_ | refine awp_exit ?_ | refine q_seqE ?_ | refine q_seqR ?_ | refine q_blkR ?_ | refine q_blkE ?_) | ((with_reducible refine awp_region ?_ ?_); (focus exact kr)) | ((with_reducible refine awp_region_any mixed ?_ ?_); (focus exact kr)) | ((with_reducible apply awp_condT); (focus exact rfl); (focus exact tt)) | ((with_reducible apply awp_condF); (focus exact rfl); (focus exact ff)) | ((with_reducible apply awp_condD); (focus exact rfl)) | ((with_reducible apply awp_condN); (focus exact rfl)) | ((with_reducible apply awp_cond); (focus exact rfl)) | ((with_reducible refine q_blkX ?_ ?_); (focus exact rfl)) | ((with_reducible refine r_nil (And.intro ?_ ?_)); (focus exact kr)) | (with_reducible refine r_nil ?_) | ((with_reducible apply r_put); (focus (first | exact o_eqlS rfl rfl rfl rfl | exact dp | exact oc rfl (aw) | exact oc rfl (cp) | exact oc rfl (c1) | exact oc rfl (c2) | exact oc rfl (c3) | exact oc rfl (b1)))) | ((with_reducible apply r_new); (focus exact dn)) | ((with_reducible apply r_app); (focus exact da)) | ((with_reducible apply r_set); (focus exact ds)) | ((with_reducible apply r_putY); (focus exact rfl); (focus exact rfl); (focus exact tf); (focus (first | exact o_eqlS rfl rfl rfl rfl | exact dp | exact oc rfl (aw) | exact oc rfl (cp) | exact oc rfl (c1) | exact oc rfl (c2) | exact oc rfl (c3) | exact oc rfl (b1)))) | ((with_reducible apply r_newY); (focus exact rfl); (focus exact rfl); (focus exact tf); (focus exact dn)) | ((with_reducible apply r_noT); (focus exact rfl); (focus exact rfl); (focus exact ff)) | ((with_reducible apply r_noF); (focus exact rfl); (focus exact rfl); (focus exact tt)) | ((with_reducible apply r_splitD); (focus exact rfl); (focus exact rfl)) | ((with_reducible apply r_split); (focus exact rfl); (focus exact rfl))))
      ((with_reducible first | apply q_retR | apply q_retN); (focus exact rl))
      rfl
  · refine ac_body Try.func8 rfl (Nat.le_of_ble_eq_true (by kernel_rfl)) fun w0 ok => ?_; show AWp _ ⟨w0, ok, _⟩ _ (ARet _ _ _) (entry _)
    (repeat' (first | (with_reducible first | intro hg | refine awp_seq ?_ | refine q_seq ?_ | refine q_blk ?_ | refine awp_block ?_ | refine awp_skip ?_ | refine awp_ret ?_ | refine awp_exit ?_ | refine q_seqE ?_ | refine q_seqR ?_ | refine q_blkR ?_ | refine q_blkE ?_) | ((with_reducible refine awp_region ?_ ?_); (focus exact kr)) | ((with_reducible refine awp_region_any mixed ?_ ?_); (focus exact kr)) | ((with_reducible apply awp_condT); (focus exact rfl); (focus exact tt)) | ((with_reducible apply awp_condF); (focus exact rfl); (focus exact ff)) | ((with_reducible apply awp_condD); (focus exact rfl)) | ((with_reducible apply awp_condN); (focus exact rfl)) | ((with_reducible apply awp_cond); (focus exact rfl)) | ((with_reducible refine q_blkX ?_ ?_); (focus exact rfl)) | ((with_reducible refine r_nil (And.intro ?_ ?_)); (focus exact kr)) | (with_reducible refine r_nil ?_) | ((with_reducible apply r_put); (focus (first | exact dp | exact oc rfl (aw)))) | ((with_reducible apply r_new); (focus exact dn)) | ((with_reducible apply r_app); (focus exact da)) | ((with_reducible apply r_set); (focus exact ds)) | ((with_reducible apply r_putY); (focus exact rfl); (focus exact rfl); (focus exact tf); (focus (first | exact dp | exact oc rfl (aw)))) | ((with_reducible apply r_newY); (focus exact rfl); (focus exact rfl); (focus exact tf); (focus exact dn)) | ((with_reducible apply r_noT); (focus exact rfl); (focus exact rfl); (focus exact ff)) | ((with_reducible apply r_noF); (focus exact rfl); (focus exact rfl); (focus exact tt)) | ((with_reducible apply r_splitD); (focus exact rfl); (focus exact rfl)) | ((with_reducible apply r_split); (focus exact rfl); (focus exact rfl))))
    ((with_reducible first | apply q_retR | apply q_retN); (focus exact rl))
    rfl

end Go.Proofs.Ytemihhkbieplmaa
