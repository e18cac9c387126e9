/- The law RollHarmonics: what it answers. -/
import Derived.Test.YtemihhkbieplmaaHc
set_option linter.unusedVariables false
set_option linter.unusedSimpArgs false
namespace Go.Proofs.Ytemihhkbieplmaa
open Go.RowKit
set_option maxRecDepth 20000
set_option maxHeartbeats 8000000

theorem quarters_same (a0 a1 a2 a3 a4 a5 a6 a7 : Int) : ∃ z0 z1 z2 z3 e : Int, AC Try.prog 73 [.agg [I a0, I a1, I a2, I a3, I a4, I a5, I a6, I a7]] (.tuple [.agg [I z0, I z1, I z2, I z3], I e]) ∧ AC Try.prog 74 [.agg [I a0, I a1, I a2, I a3, I a4, I a5, I a6, I a7]] (.tuple [.agg [I z0, I z1, I z2, I z3], I e]) := by
  by_cases hin : In8 a0 a1 a2 a3 a4 a5 a6 a7
  · by_cases hgd : Gd8 a0 a1 a2 a3 a4 a5 a6 a7
    · exact ⟨_, _, _, _, _, quartersOf_A _ _ _ _ _ _ _ _ _ (fun h => absurd hin h) (fun _ h => absurd hgd h) (fun _ _ => rfl), bquarters_A _ _ _ _ _ _ _ _ _ (fun h => absurd hin h) (fun _ h => absurd hgd h) (fun _ _ => rfl)⟩
    · exact ⟨_, _, _, _, _, quartersOf_A _ _ _ _ _ _ _ _ _ (fun h => absurd hin h) (fun _ _ => rfl) (fun _ h => absurd h hgd), bquarters_A _ _ _ _ _ _ _ _ _ (fun h => absurd hin h) (fun _ _ => rfl) (fun _ h => absurd h hgd)⟩
  · exact ⟨_, _, _, _, _, quartersOf_A _ _ _ _ _ _ _ _ _ (fun _ => rfl) (fun h _ => absurd h hin) (fun h _ => absurd h hin), bquarters_A _ _ _ _ _ _ _ _ _ (fun _ => rfl) (fun h _ => absurd h hin) (fun h _ => absurd h hin)⟩

theorem rollHarmonics_A (xs : List Int) (nm : ByteArray) (p o a0 a1 a2 a3 a4 a5 a6 a7 : Int) (hm : xs.length ≤ 140737488355328) (hs : nm.size ≤ 140737488355328) (hp : I64 p) :
    AC Try.prog 14 [isl xs, drumV nm p o, .agg [I a0, I a1, I a2, I a3, I a4, I a5, I a6, I a7]] (B true) := by
  have aw := awake_A
  by_cases hf : (xs.length : Int) ≤ 242
  · have hfew := few_ok xs hf
    have cp := copyInts_A xs (by omega)
    have ht := turnE_A xs nm p o hm hs
    obtain ⟨z0, z1, z2, z3, e, q1, q2⟩ := quarters_same a0 a1 a2 a3 a4 a5 a6 a7
    by_cases hte : turnErr xs nm p o = 0
    · obtain ⟨hd, hml, hl, hB⟩ := low2 hte
      obtain ⟨d1, d2, d3, d4⟩ := id hd
      have hB4 : Bnd 4000000 xs := hB.mono (by omega)
      have hh := harmonicsOf_ok xs nm p o hs hp hte
      have e1 := bwhole_A nm p o xs.length (by omega) (by omega) (by omega)
      have e2 : AC Try.prog 76 [isl xs, drumV nm p o, I 0, I (cnt xs.length p : Nat)] (.agg [I (rsum p o xs 0 0), I (rsum p o xs 0 1), I (rsum p o xs 0 2), I (rsum p o xs 0 3)]) := bsums0_A nm p o xs (by omega) hd hB4
      have b (q : Int) := rsum_bnd (p := p) (o := o) (k0 := 0) (q := q) hB4 (by omega)
      have b0 := b 0
      have b1 := b 1
      have b2 := b 2
      have b3 := b 3
      have e3 := bharmonics_A (rsum p o xs 0 0) (rsum p o xs 0 1) (rsum p o xs 0 2) (rsum p o xs 0 3) (by omega) (by omega) (by omega) (by omega)
      refine ac_body Try.func14 rfl (Nat.le_of_ble_eq_true (by kernel_rfl)) fun w0 ok => ?_; show AWp _ ⟨w0, ok, _⟩ _ (ARet _ _ _) (entry _)
      (repeat' (first | (with_reducible first | intro hg | refine awp_seq ?_ | refine q_seq ?_ | refine q_blk ?_ | refine awp_block ?_ | refine awp_skip ?_ | refine awp_ret ?_ | refine awp_exit ?_ | refine q_seqE ?_ | refine q_seqR ?_ | refine q_blkR ?_ | refine q_blkE ?_) | ((with_reducible refine awp_region ?_ ?_); (focus exact kr)) | ((with_reducible refine awp_region_any mixed ?_ ?_); (focus exact kr)) | ((with_reducible apply awp_condT); (focus exact rfl); (focus exact tt)) | ((with_reducible apply awp_condF); (focus exact rfl); (focus exact ff)) | ((with_reducible apply awp_condD); (focus exact rfl)) | ((with_reducible apply awp_condN); (focus exact rfl)) | ((with_reducible apply awp_cond); (focus exact rfl)) | ((with_reducible refine q_blkX ?_ ?_); (focus exact rfl)) | ((with_reducible refine r_nil (And.intro ?_ ?_)); (focus exact kr)) | (with_reducible refine r_nil ?_) | ((with_reducible apply r_put); (focus (first | exact o_eqlS rfl rfl rfl rfl | exact o_neqS rfl rfl rfl rfl | exact dp | exact oc rfl (aw) | exact oc rfl (hfew) | exact oc rfl (cp) | exact oc rfl (ht) | exact oc rfl (q1) | exact oc rfl (q2) | exact oc rfl (hh) | exact oc rfl (e1) | exact oc rfl (e2) | exact oc rfl (e3)))) | ((with_reducible apply r_new); (focus exact dn)) | ((with_reducible apply r_app); (focus exact da)) | ((with_reducible apply r_set); (focus exact ds)) | ((with_reducible apply r_putY); (focus exact rfl); (focus exact rfl); (focus exact tf); (focus (first | exact o_eqlS rfl rfl rfl rfl | exact o_neqS rfl rfl rfl rfl | exact dp | exact oc rfl (aw) | exact oc rfl (hfew) | exact oc rfl (cp) | exact oc rfl (ht) | exact oc rfl (q1) | exact oc rfl (q2) | exact oc rfl (hh) | exact oc rfl (e1) | exact oc rfl (e2) | exact oc rfl (e3)))) | ((with_reducible apply r_newY); (focus exact rfl); (focus exact rfl); (focus exact tf); (focus exact dn)) | ((with_reducible apply r_noT); (focus exact rfl); (focus exact rfl); (focus exact ff)) | ((with_reducible apply r_noF); (focus exact rfl); (focus exact rfl); (focus exact tt)) | ((with_reducible apply r_splitD); (focus exact rfl); (focus exact rfl)) | ((with_reducible apply r_split); (focus exact rfl); (focus exact rfl))))
      ((with_reducible first | apply q_retR | apply q_retN); (focus exact rl))
      rfl
    · have hh := harmonicsOf_err xs nm p o hm hs hp hte
      refine ac_body Try.func14 rfl (Nat.le_of_ble_eq_true (by kernel_rfl)) fun w0 ok => ?_; show AWp _ ⟨w0, ok, _⟩ _ (ARet _ _ _) (entry _)
      (repeat' (first | (with_reducible first | intro hg | refine awp_seq ?_ | refine q_seq ?_ | refine q_blk ?_ | refine awp_block ?_ | refine awp_skip ?_ | refine awp_ret ?_ | refine awp_exit ?_ | refine q_seqE ?_ | refine q_seqR ?_ | refine q_blkR ?_ | refine q_blkE ?_) | ((with_reducible refine awp_region ?_ ?_); (focus exact kr)) | ((with_reducible refine awp_region_any mixed ?_ ?_); (focus exact kr)) | ((with_reducible apply awp_condT); (focus exact rfl); (focus exact tt)) | ((with_reducible apply awp_condF); (focus exact rfl); (focus exact ff)) | ((with_reducible apply awp_condD); (focus exact rfl)) | ((with_reducible apply awp_condN); (focus exact rfl)) | ((with_reducible apply awp_cond); (focus exact rfl)) | ((with_reducible refine q_blkX ?_ ?_); (focus exact rfl)) | ((with_reducible refine r_nil (And.intro ?_ ?_)); (focus exact kr)) | (with_reducible refine r_nil ?_) | ((with_reducible apply r_put); (focus (first | exact o_eqlS rfl rfl rfl rfl | exact o_neqS rfl rfl rfl rfl | exact dp | exact oc rfl (aw) | exact oc rfl (hfew) | exact oc rfl (cp) | exact oc rfl (ht) | exact oc rfl (q1) | exact oc rfl (q2) | exact oc rfl (hh)))) | ((with_reducible apply r_new); (focus exact dn)) | ((with_reducible apply r_app); (focus exact da)) | ((with_reducible apply r_set); (focus exact ds)) | ((with_reducible apply r_putY); (focus exact rfl); (focus exact rfl); (focus exact tf); (focus (first | exact o_eqlS rfl rfl rfl rfl | exact o_neqS rfl rfl rfl rfl | exact dp | exact oc rfl (aw) | exact oc rfl (hfew) | exact oc rfl (cp) | exact oc rfl (ht) | exact oc rfl (q1) | exact oc rfl (q2) | exact oc rfl (hh)))) | ((with_reducible apply r_newY); (focus exact rfl); (focus exact rfl); (focus exact tf); (focus exact dn)) | ((with_reducible apply r_noT); (focus exact rfl); (focus exact rfl); (focus exact ff)) | ((with_reducible apply r_noF); (focus exact rfl); (focus exact rfl); (focus exact tt)) | ((with_reducible apply r_splitD); (focus exact rfl); (focus exact rfl)) | ((with_reducible apply r_split); (focus exact rfl); (focus exact rfl))))
      ((with_reducible first | apply q_retR | apply q_retN); (focus exact rl))
      rfl
  · have hfew := few_big xs hm hf
    refine ac_body Try.func14 rfl (Nat.le_of_ble_eq_true (by kernel_rfl)) fun w0 ok => ?_; show AWp _ ⟨w0, ok, _⟩ _ (ARet _ _ _) (entry _)
    (repeat' (first | (with_reducible first | intro hg | refine awp_seq ?_ | refine q_seq ?_ | refine q_blk ?_ | refine awp_block ?_ | refine awp_skip ?_ | refine awp_ret ?_ | refine awp_exit ?_ | refine q_seqE ?_ | refine q_seqR ?_ | refine q_blkR ?_ | refine q_blkE ?_) | ((with_reducible refine awp_region ?_ ?_); (focus exact kr)) | ((with_reducible refine awp_region_any mixed ?_ ?_); (focus exact kr)) | ((with_reducible apply awp_condT); (focus exact rfl); (focus exact tt)) | ((with_reducible apply awp_condF); (focus exact rfl); (focus exact ff)) | ((with_reducible apply awp_condD); (focus exact rfl)) | ((with_reducible apply awp_condN); (focus exact rfl)) | ((with_reducible apply awp_cond); (focus exact rfl)) | ((with_reducible refine q_blkX ?_ ?_); (focus exact rfl)) | ((with_reducible refine r_nil (And.intro ?_ ?_)); (focus exact kr)) | (with_reducible refine r_nil ?_) | ((with_reducible apply r_put); (focus (first | exact dp | exact oc rfl (aw) | exact oc rfl (hfew)))) | ((with_reducible apply r_new); (focus exact dn)) | ((with_reducible apply r_app); (focus exact da)) | ((with_reducible apply r_set); (focus exact ds)) | ((with_reducible apply r_putY); (focus exact rfl); (focus exact rfl); (focus exact tf); (focus (first | exact dp | exact oc rfl (aw) | exact oc rfl (hfew)))) | ((with_reducible apply r_newY); (focus exact rfl); (focus exact rfl); (focus exact tf); (focus exact dn)) | ((with_reducible apply r_noT); (focus exact rfl); (focus exact rfl); (focus exact ff)) | ((with_reducible apply r_noF); (focus exact rfl); (focus exact rfl); (focus exact tt)) | ((with_reducible apply r_splitD); (focus exact rfl); (focus exact rfl)) | ((with_reducible apply r_split); (focus exact rfl); (focus exact rfl))))
    ((with_reducible first | apply q_retR | apply q_retN); (focus exact rl))
    rfl

end Go.Proofs.Ytemihhkbieplmaa
