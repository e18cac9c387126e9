/- Walk: TopRollLinear, the fit. -/
import Derived.Test.YtemihhkbieplmaaIs
set_option linter.unusedVariables false
set_option linter.unusedSimpArgs false
namespace Go.Proofs.Ytemihhkbieplmaa
open Go.RowKit
set_option maxRecDepth 20000
set_option maxHeartbeats 2000000

theorem linear_fit (xs : List Int) (nm0 : ByteArray) (p0 o0 : Int) (nm1 : ByteArray) (p1 o1 : Int) (w0 : World) (ok : Nat → Prop) (hs0 : nm0.size ≤ 140737488355328) (hp0 : I64 p0) (hs1 : nm1.size ≤ 140737488355328) (hp1 : I64 p1) (hex : pairErr xs nm0 p0 o0 nm1 p1 o1 = 0) (lx2 : xs.length ≤ 240) (h5 : ¬ (xs.length : Int) < p0 + p0 / 2) :
    AWp Try.prog (ctx0 w0 ok Try.f16.ntmps) (dropSeq 14 (Try.f16.body.getD .skip)) (ARet Try.prog Try.f16.results.toList (B true)) ⟨frL [(0, .d (isl xs)), (5, .ptr 5 0)], memL [(5, ⟨66, [S nm0, I p0, I o0, S nm1, I p1, I o1]⟩)]⟩ := by
  obtain ⟨ex1, ex2, ex3⟩ := pair_ok hex
  obtain ⟨lx1, _, hBx⟩ := rec_ok ex1
  have hd0 := (drum_ok ex2).1
  have hd1 := (drum_ok ex3).1
  obtain ⟨d01, d02, d03, d04⟩ := id hd0
  obtain ⟨d11, d12, d13, d14⟩ := id hd1
  have bx : bothErr xs nm0 p0 o0 = 0 := by unfold bothErr; rw [ex1, ex2]; rfl
  have cpx := copyInts_A xs (by omega)
  show AWp _ _ (Code.seq _ _) _ _
  obtain ⟨M, hM⟩ : ∃ M, M = eqM (fun k i => W4 p0 o0 p1 o1 k i) xs.length := ⟨_, rfl⟩
  obtain ⟨R, hR⟩ : ∃ R, R = eqR (fun k i => W4 p0 o0 p1 o1 k i) xs xs.length := ⟨_, rfl⟩
  by_cases hz : fitDen M = 0
  · have hf := fitOf_A xs nm0 p0 o0 nm1 p1 o1 hs0 hp0 hs1 hp1 hex M R hM hR (.tuple [fit0, I 12]) (fun _ => rfl) (fun h => absurd hz h) (fun h => absurd hz h)
    clear hM hR hz hex ex1 ex2 ex3 bx hd0 hd1 hBx
    (repeat' (first | (with_reducible first | intro hg | refine awp_seq ?_ | refine q_seq ?_ | refine q_blk ?_ | refine awp_block ?_ | refine awp_skip ?_ | refine awp_ret ?_ | refine awp_exit ?_ | refine q_seqE ?_ | refine q_seqR ?_ | refine q_blkR ?_ | refine q_blkE ?_) | ((with_reducible refine awp_region ?_ ?_); (focus exact kr)) | ((with_reducible refine awp_region_any mixed ?_ ?_); (focus exact kr)) | ((with_reducible apply awp_condT); (focus exact rfl); (focus exact tt)) | ((with_reducible apply awp_condF); (focus exact rfl); (focus exact ff)) | ((with_reducible apply awp_condD); (focus exact rfl)) | ((with_reducible apply awp_condN); (focus exact rfl)) | ((with_reducible apply awp_cond); (focus exact rfl)) | ((with_reducible refine q_blkX ?_ ?_); (focus exact rfl)) | ((with_reducible refine r_nil (And.intro ?_ ?_)); (focus exact kr)) | (with_reducible refine r_nil ?_) | ((with_reducible apply r_put); (focus (first | exact dp | exact oc rfl (cpx) | exact oc rfl (hf)))) | ((with_reducible apply r_new); (focus exact dn)) | ((with_reducible apply r_app); (focus exact da)) | ((with_reducible apply r_set); (focus exact ds)) | ((with_reducible apply r_putY); (focus exact rfl); (focus exact rfl); (focus exact tf); (focus (first | exact dp | exact oc rfl (cpx) | exact oc rfl (hf)))) | ((with_reducible apply r_newY); (focus exact rfl); (focus exact rfl); (focus exact tf); (focus exact dn)) | ((with_reducible apply r_noT); (focus exact rfl); (focus exact rfl); (focus exact ff)) | ((with_reducible apply r_noF); (focus exact rfl); (focus exact rfl); (focus exact tt)) | ((with_reducible apply r_noU); (focus exact rfl); (focus exact rfl)) | ((with_reducible apply r_splitD); (focus exact rfl); (focus exact rfl)) | ((with_reducible apply r_split); (focus exact rfl); (focus exact rfl))))
    ((with_reducible first | apply q_retR | apply q_retN); (focus exact rl))
    rfl
  cases hal : fitAll M R
  · have hf := fitOf_A xs nm0 p0 o0 nm1 p1 o1 hs0 hp0 hs1 hp1 hex M R hM hR (.tuple [fit0, I 8]) (fun h => absurd h hz) (fun _ _ => rfl) (fun _ h => by rw [hal] at h; cases h)
    clear hM hR hz hex ex1 ex2 ex3 bx hd0 hd1 hBx hal
    (repeat' (first | (with_reducible first | intro hg | refine awp_seq ?_ | refine q_seq ?_ | refine q_blk ?_ | refine awp_block ?_ | refine awp_skip ?_ | refine awp_ret ?_ | refine awp_exit ?_ | refine q_seqE ?_ | refine q_seqR ?_ | refine q_blkR ?_ | refine q_blkE ?_) | ((with_reducible refine awp_region ?_ ?_); (focus exact kr)) | ((with_reducible refine awp_region_any mixed ?_ ?_); (focus exact kr)) | ((with_reducible apply awp_condT); (focus exact rfl); (focus exact tt)) | ((with_reducible apply awp_condF); (focus exact rfl); (focus exact ff)) | ((with_reducible apply awp_condD); (focus exact rfl)) | ((with_reducible apply awp_condN); (focus exact rfl)) | ((with_reducible apply awp_cond); (focus exact rfl)) | ((with_reducible refine q_blkX ?_ ?_); (focus exact rfl)) | ((with_reducible refine r_nil (And.intro ?_ ?_)); (focus exact kr)) | (with_reducible refine r_nil ?_) | ((with_reducible apply r_put); (focus (first | exact dp | exact oc rfl (cpx) | exact oc rfl (hf)))) | ((with_reducible apply r_new); (focus exact dn)) | ((with_reducible apply r_app); (focus exact da)) | ((with_reducible apply r_set); (focus exact ds)) | ((with_reducible apply r_putY); (focus exact rfl); (focus exact rfl); (focus exact tf); (focus (first | exact dp | exact oc rfl (cpx) | exact oc rfl (hf)))) | ((with_reducible apply r_newY); (focus exact rfl); (focus exact rfl); (focus exact tf); (focus exact dn)) | ((with_reducible apply r_noT); (focus exact rfl); (focus exact rfl); (focus exact ff)) | ((with_reducible apply r_noF); (focus exact rfl); (focus exact rfl); (focus exact tt)) | ((with_reducible apply r_noU); (focus exact rfl); (focus exact rfl)) | ((with_reducible apply r_splitD); (focus exact rfl); (focus exact rfl)) | ((with_reducible apply r_split); (focus exact rfl); (focus exact rfl))))
    ((with_reducible first | apply q_retR | apply q_retN); (focus exact rl))
    rfl
  have hf := fitOf_A xs nm0 p0 o0 nm1 p1 o1 hs0 hp0 hs1 hp1 hex M R hM hR _ (fun h => absurd h hz) (fun _ h => by rw [hal] at h; cases h) (fun _ _ => rfl)
  have hlv := fun hD hw0 hw1 {L2 : List Int} hL => fit_leaves (xs := xs) hd0 hd1 (by rw [← hM]; exact hz) hD rfl rfl rfl rfl hw0 hw1 (L2 := L2) hL
  rw [← hM, ← hR] at hlv
  unfold f5V at hf
  generalize fitD M R = D at *
  generalize fitQ M R 0 = F0 at *
  generalize fitQ M R 1 = F1 at *
  generalize fitQ M R 2 = F2 at *
  generalize fitQ M R 3 = F3 at *
  clear hM hR hz hal hex
  have tm0 : (xs.length : Int).tmod p0 = (xs.length : Int) % p0 := Int.tmod_eq_emod_of_nonneg (by omega)
  have tm1 : (xs.length : Int).tmod p1 = (xs.length : Int) % p1 := Int.tmod_eq_emod_of_nonneg (by omega)
  by_cases hD : D = 1
  rotate_left
  · clear hlv hBx ex1 ex2 ex3 bx hd0 hd1
    (repeat' (first | (with_reducible first | intro hg | refine awp_seq ?_ | refine q_seq ?_ | refine q_blk ?_ | refine awp_block ?_ | refine awp_skip ?_ | refine awp_ret ?_ | refine awp_exit ?_ | refine q_seqE ?_ | refine q_seqR ?_ | refine q_blkR ?_ | refine q_blkE ?_) | ((with_reducible refine awp_region ?_ ?_); (focus exact kr)) | ((with_reducible refine awp_region_any mixed ?_ ?_); (focus exact kr)) | ((with_reducible apply awp_condT); (focus exact rfl); (focus exact tt)) | ((with_reducible apply awp_condF); (focus exact rfl); (focus exact ff)) | ((with_reducible apply awp_condD); (focus exact rfl)) | ((with_reducible apply awp_condN); (focus exact rfl)) | ((with_reducible apply awp_cond); (focus exact rfl)) | ((with_reducible refine q_blkX ?_ ?_); (focus exact rfl)) | ((with_reducible refine r_nil (And.intro ?_ ?_)); (focus exact kr)) | (with_reducible refine r_nil ?_) | ((with_reducible apply r_put); (focus (first | exact dp | exact oc rfl (cpx) | exact oc rfl (hf)))) | ((with_reducible apply r_new); (focus exact dn)) | ((with_reducible apply r_app); (focus exact da)) | ((with_reducible apply r_set); (focus exact ds)) | ((with_reducible apply r_putY); (focus exact rfl); (focus exact rfl); (focus exact tf); (focus (first | exact dp | exact oc rfl (cpx) | exact oc rfl (hf)))) | ((with_reducible apply r_newY); (focus exact rfl); (focus exact rfl); (focus exact tf); (focus exact dn)) | ((with_reducible apply r_noT); (focus exact rfl); (focus exact rfl); (focus exact ff)) | ((with_reducible apply r_noF); (focus exact rfl); (focus exact rfl); (focus exact tt)) | ((with_reducible apply r_noU); (focus exact rfl); (focus exact rfl)) | ((with_reducible apply r_splitD); (focus exact rfl); (focus exact rfl)) | ((with_reducible apply r_split); (focus exact rfl); (focus exact rfl))))
    ((with_reducible first | apply q_retR | apply q_retN); (focus exact rl))
    rfl
  by_cases hw0 : (xs.length : Int) % p0 = 0
  rotate_left
  · clear hlv hBx ex1 ex2 ex3 bx hd0 hd1
    (repeat' (first | (with_reducible first | intro hg | refine awp_seq ?_ | refine q_seq ?_ | refine q_blk ?_ | refine awp_block ?_ | refine awp_skip ?_ | refine awp_ret ?_ | refine awp_exit ?_ | refine q_seqE ?_ | refine q_seqR ?_ | refine q_blkR ?_ | refine q_blkE ?_) | ((with_reducible refine awp_region ?_ ?_); (focus exact kr)) | ((with_reducible refine awp_region_any mixed ?_ ?_); (focus exact kr)) | ((with_reducible apply awp_condT); (focus exact rfl); (focus exact tt)) | ((with_reducible apply awp_condF); (focus exact rfl); (focus exact ff)) | ((with_reducible apply awp_condD); (focus exact rfl)) | ((with_reducible apply awp_condN); (focus exact rfl)) | ((with_reducible apply awp_cond); (focus exact rfl)) | ((with_reducible refine q_blkX ?_ ?_); (focus exact rfl)) | ((with_reducible refine r_nil (And.intro ?_ ?_)); (focus exact kr)) | (with_reducible refine r_nil ?_) | ((with_reducible apply r_put); (focus (first | exact dp | exact oc rfl (cpx) | exact oc rfl (hf)))) | ((with_reducible apply r_new); (focus exact dn)) | ((with_reducible apply r_app); (focus exact da)) | ((with_reducible apply r_set); (focus exact ds)) | ((with_reducible apply r_putY); (focus exact rfl); (focus exact rfl); (focus exact tf); (focus (first | exact dp | exact oc rfl (cpx) | exact oc rfl (hf)))) | ((with_reducible apply r_newY); (focus exact rfl); (focus exact rfl); (focus exact tf); (focus exact dn)) | ((with_reducible apply r_noT); (focus exact rfl); (focus exact rfl); (focus exact ff)) | ((with_reducible apply r_noF); (focus exact rfl); (focus exact rfl); (focus exact tt)) | ((with_reducible apply r_noU); (focus exact rfl); (focus exact rfl)) | ((with_reducible apply r_splitD); (focus exact rfl); (focus exact rfl)) | ((with_reducible apply r_split); (focus exact rfl); (focus exact rfl))))
    ((with_reducible first | apply q_retR | apply q_retN); (focus exact rl))
    rfl
  by_cases hw1 : (xs.length : Int) % p1 = 0
  rotate_left
  · clear hlv hBx ex1 ex2 ex3 bx hd0 hd1
    (repeat' (first | (with_reducible first | intro hg | refine awp_seq ?_ | refine q_seq ?_ | refine q_blk ?_ | refine awp_block ?_ | refine awp_skip ?_ | refine awp_ret ?_ | refine awp_exit ?_ | refine q_seqE ?_ | refine q_seqR ?_ | refine q_blkR ?_ | refine q_blkE ?_) | ((with_reducible refine awp_region ?_ ?_); (focus exact kr)) | ((with_reducible refine awp_region_any mixed ?_ ?_); (focus exact kr)) | ((with_reducible apply awp_condT); (focus exact rfl); (focus exact tt)) | ((with_reducible apply awp_condF); (focus exact rfl); (focus exact ff)) | ((with_reducible apply awp_condD); (focus exact rfl)) | ((with_reducible apply awp_condN); (focus exact rfl)) | ((with_reducible apply awp_cond); (focus exact rfl)) | ((with_reducible refine q_blkX ?_ ?_); (focus exact rfl)) | ((with_reducible refine r_nil (And.intro ?_ ?_)); (focus exact kr)) | (with_reducible refine r_nil ?_) | ((with_reducible apply r_put); (focus (first | exact dp | exact oc rfl (cpx) | exact oc rfl (hf)))) | ((with_reducible apply r_new); (focus exact dn)) | ((with_reducible apply r_app); (focus exact da)) | ((with_reducible apply r_set); (focus exact ds)) | ((with_reducible apply r_putY); (focus exact rfl); (focus exact rfl); (focus exact tf); (focus (first | exact dp | exact oc rfl (cpx) | exact oc rfl (hf)))) | ((with_reducible apply r_newY); (focus exact rfl); (focus exact rfl); (focus exact tf); (focus exact dn)) | ((with_reducible apply r_noT); (focus exact rfl); (focus exact rfl); (focus exact ff)) | ((with_reducible apply r_noF); (focus exact rfl); (focus exact rfl); (focus exact tt)) | ((with_reducible apply r_noU); (focus exact rfl); (focus exact rfl)) | ((with_reducible apply r_splitD); (focus exact rfl); (focus exact rfl)) | ((with_reducible apply r_split); (focus exact rfl); (focus exact rfl))))
    ((with_reducible first | apply q_retR | apply q_retN); (focus exact rl))
    rfl
  have hlv := fun {L2 : List Int} hL => hlv hD hw0 hw1 (L2 := L2) hL
  have ea0 := bampErr_A F0 F1
  have ea1 := bampErr_A F2 F3
  by_cases ha0 : ampErr F0 F1 = 0
  rotate_left
  · clear hlv hBx ex1 ex2 ex3 bx hd0 hd1 ea1
    (repeat' (first | (with_reducible first | intro hg | refine awp_seq ?_ | refine q_seq ?_ | refine q_blk ?_ | refine awp_block ?_ | refine awp_skip ?_ | refine awp_ret ?_ | refine awp_exit ?_ | refine q_seqE ?_ | refine q_seqR ?_ | refine q_blkR ?_ | refine q_blkE ?_) | ((with_reducible refine awp_region ?_ ?_); (focus exact kr)) | ((with_reducible refine awp_region_any mixed ?_ ?_); (focus exact kr)) | ((with_reducible apply awp_condT); (focus exact rfl); (focus exact tt)) | ((with_reducible apply awp_condF); (focus exact rfl); (focus exact ff)) | ((with_reducible apply awp_condD); (focus exact rfl)) | ((with_reducible apply awp_condN); (focus exact rfl)) | ((with_reducible apply awp_cond); (focus exact rfl)) | ((with_reducible refine q_blkX ?_ ?_); (focus exact rfl)) | ((with_reducible refine r_nil (And.intro ?_ ?_)); (focus exact kr)) | (with_reducible refine r_nil ?_) | ((with_reducible apply r_put); (focus (first | exact dp | exact oc rfl (cpx) | exact oc rfl (hf) | exact oc rfl (ea0)))) | ((with_reducible apply r_new); (focus exact dn)) | ((with_reducible apply r_app); (focus exact da)) | ((with_reducible apply r_set); (focus exact ds)) | ((with_reducible apply r_putY); (focus exact rfl); (focus exact rfl); (focus exact tf); (focus (first | exact dp | exact oc rfl (cpx) | exact oc rfl (hf) | exact oc rfl (ea0)))) | ((with_reducible apply r_newY); (focus exact rfl); (focus exact rfl); (focus exact tf); (focus exact dn)) | ((with_reducible apply r_noT); (focus exact rfl); (focus exact rfl); (focus exact ff)) | ((with_reducible apply r_noF); (focus exact rfl); (focus exact rfl); (focus exact tt)) | ((with_reducible apply r_noU); (focus exact rfl); (focus exact rfl)) | ((with_reducible apply r_splitD); (focus exact rfl); (focus exact rfl)) | ((with_reducible apply r_split); (focus exact rfl); (focus exact rfl))))
    ((with_reducible first | apply q_retR | apply q_retN); (focus exact rl))
    rfl
  by_cases ha1 : ampErr F2 F3 = 0
  rotate_left
  · rw [ha0] at ea0
    clear hlv hBx ex1 ex2 ex3 bx hd0 hd1
    (repeat' (first | (with_reducible first | intro hg | refine awp_seq ?_ | refine q_seq ?_ | refine q_blk ?_ | refine awp_block ?_ | refine awp_skip ?_ | refine awp_ret ?_ | refine awp_exit ?_ | refine q_seqE ?_ | refine q_seqR ?_ | refine q_blkR ?_ | refine q_blkE ?_) | ((with_reducible refine awp_region ?_ ?_); (focus exact kr)) | ((with_reducible refine awp_region_any mixed ?_ ?_); (focus exact kr)) | ((with_reducible apply awp_condT); (focus exact rfl); (focus exact tt)) | ((with_reducible apply awp_condF); (focus exact rfl); (focus exact ff)) | ((with_reducible apply awp_condD); (focus exact rfl)) | ((with_reducible apply awp_condN); (focus exact rfl)) | ((with_reducible apply awp_cond); (focus exact rfl)) | ((with_reducible refine q_blkX ?_ ?_); (focus exact rfl)) | ((with_reducible refine r_nil (And.intro ?_ ?_)); (focus exact kr)) | (with_reducible refine r_nil ?_) | ((with_reducible apply r_put); (focus (first | exact dp | exact oc rfl (cpx) | exact oc rfl (hf) | exact oc rfl (ea0) | exact oc rfl (ea1)))) | ((with_reducible apply r_new); (focus exact dn)) | ((with_reducible apply r_app); (focus exact da)) | ((with_reducible apply r_set); (focus exact ds)) | ((with_reducible apply r_putY); (focus exact rfl); (focus exact rfl); (focus exact tf); (focus (first | exact dp | exact oc rfl (cpx) | exact oc rfl (hf) | exact oc rfl (ea0) | exact oc rfl (ea1)))) | ((with_reducible apply r_newY); (focus exact rfl); (focus exact rfl); (focus exact tf); (focus exact dn)) | ((with_reducible apply r_noT); (focus exact rfl); (focus exact rfl); (focus exact ff)) | ((with_reducible apply r_noF); (focus exact rfl); (focus exact rfl); (focus exact tt)) | ((with_reducible apply r_noU); (focus exact rfl); (focus exact rfl)) | ((with_reducible apply r_splitD); (focus exact rfl); (focus exact rfl)) | ((with_reducible apply r_split); (focus exact rfl); (focus exact rfl))))
    ((with_reducible first | apply q_retR | apply q_retN); (focus exact rl))
    rfl
  rw [ha0] at ea0
  rw [ha1] at ea1
  have hc1 := cancelled_ok xs nm0 p0 o0 F0 F1 hs0 hp0 (by unfold cancErr; rw [bx, ha0]; rfl)
  obtain ⟨L1, hL1⟩ : ∃ L1, L1 = lst (canc xs p0 o0 F0 F1) xs.length := ⟨_, rfl⟩
  have hl1 : L1.length = xs.length := by rw [hL1, lst_length]
  rw [← hL1] at hc1
  have hr1 := brec_A L1 (by omega)
  by_cases he1 : recErr L1 = 0
  rotate_left
  · clear hlv hBx ex1 ex2 ex3 bx hd0 hd1
    (repeat' (first | (with_reducible first | intro hg | refine awp_seq ?_ | refine q_seq ?_ | refine q_blk ?_ | refine awp_block ?_ | refine awp_skip ?_ | refine awp_ret ?_ | refine awp_exit ?_ | refine q_seqE ?_ | refine q_seqR ?_ | refine q_blkR ?_ | refine q_blkE ?_) | ((with_reducible refine awp_region ?_ ?_); (focus exact kr)) | ((with_reducible refine awp_region_any mixed ?_ ?_); (focus exact kr)) | ((with_reducible apply awp_condT); (focus exact rfl); (focus exact tt)) | ((with_reducible apply awp_condF); (focus exact rfl); (focus exact ff)) | ((with_reducible apply awp_condD); (focus exact rfl)) | ((with_reducible apply awp_condN); (focus exact rfl)) | ((with_reducible apply awp_cond); (focus exact rfl)) | ((with_reducible refine q_blkX ?_ ?_); (focus exact rfl)) | ((with_reducible refine r_nil (And.intro ?_ ?_)); (focus exact kr)) | (with_reducible refine r_nil ?_) | ((with_reducible apply r_put); (focus (first | exact dp | exact oc rfl (cpx) | exact oc rfl (hf) | exact oc rfl (ea0) | exact oc rfl (ea1) | exact oc rfl (hc1) | exact oc rfl (hr1)))) | ((with_reducible apply r_new); (focus exact dn)) | ((with_reducible apply r_app); (focus exact da)) | ((with_reducible apply r_set); (focus exact ds)) | ((with_reducible apply r_putY); (focus exact rfl); (focus exact rfl); (focus exact tf); (focus (first | exact dp | exact oc rfl (cpx) | exact oc rfl (hf) | exact oc rfl (ea0) | exact oc rfl (ea1) | exact oc rfl (hc1) | exact oc rfl (hr1)))) | ((with_reducible apply r_newY); (focus exact rfl); (focus exact rfl); (focus exact tf); (focus exact dn)) | ((with_reducible apply r_noT); (focus exact rfl); (focus exact rfl); (focus exact ff)) | ((with_reducible apply r_noF); (focus exact rfl); (focus exact rfl); (focus exact tt)) | ((with_reducible apply r_noU); (focus exact rfl); (focus exact rfl)) | ((with_reducible apply r_splitD); (focus exact rfl); (focus exact rfl)) | ((with_reducible apply r_split); (focus exact rfl); (focus exact rfl))))
    ((with_reducible first | apply q_retR | apply q_retN); (focus exact rl))
    rfl
  rw [he1] at hr1
  have b1 : bothErr L1 nm1 p1 o1 = 0 := by unfold bothErr; rw [he1, ex3]; rfl
  have hc2 := cancelled_ok L1 nm1 p1 o1 F2 F3 hs1 hp1 (by unfold cancErr; rw [b1, ha1]; rfl)
  obtain ⟨L2, hL2⟩ : ∃ L2, L2 = lst (canc L1 p1 o1 F2 F3) L1.length := ⟨_, rfl⟩
  have hl2 : L2.length = xs.length := by rw [hL2, lst_length, hl1]
  rw [← hL2] at hc2
  have hr2 := brec_A L2 (by omega)
  by_cases he2 : recErr L2 = 0
  rotate_left
  · clear hlv hBx ex1 ex2 ex3 bx hd0 hd1
    (repeat' (first | (with_reducible first | intro hg | refine awp_seq ?_ | refine q_seq ?_ | refine q_blk ?_ | refine awp_block ?_ | refine awp_skip ?_ | refine awp_ret ?_ | refine awp_exit ?_ | refine q_seqE ?_ | refine q_seqR ?_ | refine q_blkR ?_ | refine q_blkE ?_) | ((with_reducible refine awp_region ?_ ?_); (focus exact kr)) | ((with_reducible refine awp_region_any mixed ?_ ?_); (focus exact kr)) | ((with_reducible apply awp_condT); (focus exact rfl); (focus exact tt)) | ((with_reducible apply awp_condF); (focus exact rfl); (focus exact ff)) | ((with_reducible apply awp_condD); (focus exact rfl)) | ((with_reducible apply awp_condN); (focus exact rfl)) | ((with_reducible apply awp_cond); (focus exact rfl)) | ((with_reducible refine q_blkX ?_ ?_); (focus exact rfl)) | ((with_reducible refine r_nil (And.intro ?_ ?_)); (focus exact kr)) | (with_reducible refine r_nil ?_) | ((with_reducible apply r_put); (focus (first | exact dp | exact oc rfl (cpx) | exact oc rfl (hf) | exact oc rfl (ea0) | exact oc rfl (ea1) | exact oc rfl (hc1) | exact oc rfl (hr1) | exact oc rfl (hc2) | exact oc rfl (hr2)))) | ((with_reducible apply r_new); (focus exact dn)) | ((with_reducible apply r_app); (focus exact da)) | ((with_reducible apply r_set); (focus exact ds)) | ((with_reducible apply r_putY); (focus exact rfl); (focus exact rfl); (focus exact tf); (focus (first | exact dp | exact oc rfl (cpx) | exact oc rfl (hf) | exact oc rfl (ea0) | exact oc rfl (ea1) | exact oc rfl (hc1) | exact oc rfl (hr1) | exact oc rfl (hc2) | exact oc rfl (hr2)))) | ((with_reducible apply r_newY); (focus exact rfl); (focus exact rfl); (focus exact tf); (focus exact dn)) | ((with_reducible apply r_noT); (focus exact rfl); (focus exact rfl); (focus exact ff)) | ((with_reducible apply r_noF); (focus exact rfl); (focus exact rfl); (focus exact tt)) | ((with_reducible apply r_noU); (focus exact rfl); (focus exact rfl)) | ((with_reducible apply r_splitD); (focus exact rfl); (focus exact rfl)) | ((with_reducible apply r_split); (focus exact rfl); (focus exact rfl))))
    ((with_reducible first | apply q_retR | apply q_retN); (focus exact rl))
    rfl
  rw [he2] at hr2
  obtain ⟨⟨v1, v2⟩, v3, v4⟩ := hlv (L2 := L2) (by
    rw [hL2, hl1]
    unfold lst
    refine List.map_congr_left fun k hk => ?_
    rw [List.mem_range] at hk
    show nth L1 k - wave p1 o1 F2 F3 (k : Nat) = nth xs k - wave p0 o0 F0 F1 (k : Nat) - wave p1 o1 F2 F3 (k : Nat)
    rw [hL1, lst_nth _ hk]
    rfl)
  have hp1l : p1 ≤ (L2.length : Int) := by rw [hl2]; exact Int.le_of_dvd (by omega) (Int.dvd_of_emod_eq_zero hw1)
  have t0 := sumOf_ok L2 nm0 p0 o0 hs0 hp0 (by unfold turnErr bothErr; rw [he2, ex2, decide_eq_true (show p0 ≤ (L2.length : Int) by omega)]; rfl)
  have t1 := sumOf_ok L2 nm1 p1 o1 hs1 hp1 (by unfold turnErr bothErr; rw [he2, ex3, decide_eq_true hp1l]; rfl)
  rw [v1, v2] at t0
  rw [v3, v4] at t1
  have cp2 := copyInts_A L2 (by omega)
  clear hlv hBx ex1 ex2 ex3 bx hd0 hd1 b1 hL1 hL2 v1 v2 v3 v4 he1 he2
  (repeat' (first | (with_reducible first | intro hg | refine awp_seq ?_ | refine q_seq ?_ | refine q_blk ?_ | refine awp_block ?_ | refine awp_skip ?_ | refine awp_ret ?_ | refine awp_exit ?_ | refine q_seqE ?_ | refine q_seqR ?_ | refine q_blkR ?_ | refine q_blkE ?_) | ((with_reducible refine awp_region ?_ ?_); (focus exact kr)) | ((with_reducible refine awp_region_any mixed ?_ ?_); (focus exact kr)) | ((with_reducible apply awp_condT); (focus exact rfl); (focus exact tt)) | ((with_reducible apply awp_condF); (focus exact rfl); (focus exact ff)) | ((with_reducible apply awp_condD); (focus exact rfl)) | ((with_reducible apply awp_condN); (focus exact rfl)) | ((with_reducible apply awp_cond); (focus exact rfl)) | ((with_reducible refine q_blkX ?_ ?_); (focus exact rfl)) | ((with_reducible refine r_nil (And.intro ?_ ?_)); (focus exact kr)) | (with_reducible refine r_nil ?_) | ((with_reducible apply r_put); (focus (first | exact dp | exact oc rfl (cpx) | exact oc rfl (hf) | exact oc rfl (ea0) | exact oc rfl (ea1) | exact oc rfl (hc1) | exact oc rfl (hr1) | exact oc rfl (hc2) | exact oc rfl (hr2) | exact oc rfl (cp2) | exact oc rfl (t0) | exact oc rfl (t1)))) | ((with_reducible apply r_new); (focus exact dn)) | ((with_reducible apply r_app); (focus exact da)) | ((with_reducible apply r_set); (focus exact ds)) | ((with_reducible apply r_putY); (focus exact rfl); (focus exact rfl); (focus exact tf); (focus (first | exact dp | exact oc rfl (cpx) | exact oc rfl (hf) | exact oc rfl (ea0) | exact oc rfl (ea1) | exact oc rfl (hc1) | exact oc rfl (hr1) | exact oc rfl (hc2) | exact oc rfl (hr2) | exact oc rfl (cp2) | exact oc rfl (t0) | exact oc rfl (t1)))) | ((with_reducible apply r_newY); (focus exact rfl); (focus exact rfl); (focus exact tf); (focus exact dn)) | ((with_reducible apply r_noT); (focus exact rfl); (focus exact rfl); (focus exact ff)) | ((with_reducible apply r_noF); (focus exact rfl); (focus exact rfl); (focus exact tt)) | ((with_reducible apply r_noU); (focus exact rfl); (focus exact rfl)) | ((with_reducible apply r_splitD); (focus exact rfl); (focus exact rfl)) | ((with_reducible apply r_split); (focus exact rfl); (focus exact rfl))))
  ((with_reducible first | apply q_retR | apply q_retN); (focus exact rl))
  rfl

end Go.Proofs.Ytemihhkbieplmaa
