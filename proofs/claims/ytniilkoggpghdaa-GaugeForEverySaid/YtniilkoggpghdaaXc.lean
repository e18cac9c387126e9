/- The law of spans: walk. -/
import Derived.Test.YtniilkoggpghdaaXb
set_option linter.unusedVariables false
set_option linter.unusedSimpArgs false
namespace Go.Proofs.Ytniilkoggpghdaa
open Go.RowKit
set_option maxRecDepth 20000
set_option maxHeartbeats 8000000

theorem mtE_zero {m q : Int} (h1 : 1 ≤ m ∧ m ≤ 1000) (h2 : 0 ≤ q ∧ q ≤ 1000) : mtE m q = 0 := by unfold mtE; rw [inR_true.2 h1, inR_true.2 h2]; rfl
theorem thE_zero {n : Int} (h : 1 ≤ n ∧ n ≤ 100000) : thE n = 0 := by unfold thE; rw [inR_true.2 h]; rfl
theorem psE_zero {g e : Int} (h1 : 0 ≤ g ∧ g ≤ 100000) (h2 : 1 ≤ e ∧ e ≤ 100000) : psE g e = 0 := by unfold psE; rw [inR_true.2 h1, thE_zero h2]; rfl
theorem gaugeForEvery_A (aw : AC Try.prog 40 [] (B true)) (s : Std) (g e mo pl ex : Int) (hmo : I64 mo) (hpl : I64 pl) : AC Try.prog 13 [stdV s, .agg [I g, I e], .agg [I mo, I pl, I ex]] (B true) := by
  have wS := qstand_A s
  have wP := qpass_A g e
  have wT := qthickness_A ex
  by_cases hs : stE s = 0
  rotate_left
  · refine ac_body Try.func13 rfl (by kernel_rfl) fun w0 ok => ?_; show AWp _ (ctx0 w0 ok _) _ (ARet _ _ _) (entry _)
    (repeat' (first | (with_reducible first | intro hg | refine awp_seq ?_ | refine q_seq ?_ | refine q_blk ?_ | refine awp_block ?_ | refine awp_skip ?_ | refine awp_ret ?_ | refine awp_exit ?_ | refine q_seqE ?_ | refine q_seqR ?_ | refine q_blkR ?_ | refine q_blkE ?_) | ((with_reducible refine awp_region ?_ ?_); (focus exact kr)) | ((with_reducible refine awp_region_any mixed ?_ ?_); (focus exact kr)) | ((with_reducible apply awp_condT); (focus exact rfl); (focus exact tt)) | ((with_reducible apply awp_condF); (focus exact rfl); (focus exact ff)) | ((with_reducible apply awp_condD); (focus exact rfl)) | ((with_reducible apply awp_condN); (focus exact rfl)) | ((with_reducible apply awp_cond); (focus exact rfl)) | ((with_reducible refine q_blkX ?_ ?_); (focus exact rfl)) | ((with_reducible refine r_nil (And.intro ?_ ?_)); (focus exact kr)) | (with_reducible refine r_nil ?_) | ((with_reducible apply r_put); (focus (first | exact dp | exact oc rfl (aw) | exact oc rfl (wS)))) | ((with_reducible apply r_new); (focus exact dn)) | ((with_reducible apply r_app); (focus exact da)) | ((with_reducible apply r_set); (focus exact ds)) | ((with_reducible apply r_putY); (focus exact rfl); (focus exact rfl); (focus exact tf); (focus (first | exact dp | exact oc rfl (aw) | exact oc rfl (wS)))) | ((with_reducible apply r_newY); (focus exact rfl); (focus exact rfl); (focus exact tf); (focus exact dn)) | ((with_reducible apply r_noT); (focus exact rfl); (focus exact rfl); (focus exact ff)) | ((with_reducible apply r_noF); (focus exact rfl); (focus exact rfl); (focus exact tt)) | ((with_reducible apply r_noU); (focus exact rfl); (focus exact rfl)) | ((with_reducible apply r_splitD); (focus exact rfl); (focus exact rfl)) | ((with_reducible apply r_split); (focus exact rfl); (focus exact rfl))))
    ((with_reducible first | apply q_retR | apply q_retN); (focus exact rl))
    rfl
  rw [hs] at wS
  by_cases hp : psE g e = 0
  rotate_left
  · refine ac_body Try.func13 rfl (by kernel_rfl) fun w0 ok => ?_; show AWp _ (ctx0 w0 ok _) _ (ARet _ _ _) (entry _)
    (repeat' (first | (with_reducible first | intro hg | refine awp_seq ?_ | refine q_seq ?_ | refine q_blk ?_ | refine awp_block ?_ | refine awp_skip ?_ | refine awp_ret ?_ | refine awp_exit ?_ | refine q_seqE ?_ | refine q_seqR ?_ | refine q_blkR ?_ | refine q_blkE ?_) | ((with_reducible refine awp_region ?_ ?_); (focus exact kr)) | ((with_reducible refine awp_region_any mixed ?_ ?_); (focus exact kr)) | ((with_reducible apply awp_condT); (focus exact rfl); (focus exact tt)) | ((with_reducible apply awp_condF); (focus exact rfl); (focus exact ff)) | ((with_reducible apply awp_condD); (focus exact rfl)) | ((with_reducible apply awp_condN); (focus exact rfl)) | ((with_reducible apply awp_cond); (focus exact rfl)) | ((with_reducible refine q_blkX ?_ ?_); (focus exact rfl)) | ((with_reducible refine r_nil (And.intro ?_ ?_)); (focus exact kr)) | (with_reducible refine r_nil ?_) | ((with_reducible apply r_put); (focus (first | exact dp | exact oc rfl (aw) | exact oc rfl (wS) | exact oc rfl (wP)))) | ((with_reducible apply r_new); (focus exact dn)) | ((with_reducible apply r_app); (focus exact da)) | ((with_reducible apply r_set); (focus exact ds)) | ((with_reducible apply r_putY); (focus exact rfl); (focus exact rfl); (focus exact tf); (focus (first | exact dp | exact oc rfl (aw) | exact oc rfl (wS) | exact oc rfl (wP)))) | ((with_reducible apply r_newY); (focus exact rfl); (focus exact rfl); (focus exact tf); (focus exact dn)) | ((with_reducible apply r_noT); (focus exact rfl); (focus exact rfl); (focus exact ff)) | ((with_reducible apply r_noF); (focus exact rfl); (focus exact rfl); (focus exact tt)) | ((with_reducible apply r_noU); (focus exact rfl); (focus exact rfl)) | ((with_reducible apply r_splitD); (focus exact rfl); (focus exact rfl)) | ((with_reducible apply r_split); (focus exact rfl); (focus exact rfl))))
    ((with_reducible first | apply q_retR | apply q_retN); (focus exact rl))
    rfl
  rw [hp] at wP
  by_cases ht : thE ex = 0
  rotate_left
  · refine ac_body Try.func13 rfl (by kernel_rfl) fun w0 ok => ?_; show AWp _ (ctx0 w0 ok _) _ (ARet _ _ _) (entry _)
    (repeat' (first | (with_reducible first | intro hg | refine awp_seq ?_ | refine q_seq ?_ | refine q_blk ?_ | refine awp_block ?_ | refine awp_skip ?_ | refine awp_ret ?_ | refine awp_exit ?_ | refine q_seqE ?_ | refine q_seqR ?_ | refine q_blkR ?_ | refine q_blkE ?_) | ((with_reducible refine awp_region ?_ ?_); (focus exact kr)) | ((with_reducible refine awp_region_any mixed ?_ ?_); (focus exact kr)) | ((with_reducible apply awp_condT); (focus exact rfl); (focus exact tt)) | ((with_reducible apply awp_condF); (focus exact rfl); (focus exact ff)) | ((with_reducible apply awp_condD); (focus exact rfl)) | ((with_reducible apply awp_condN); (focus exact rfl)) | ((with_reducible apply awp_cond); (focus exact rfl)) | ((with_reducible refine q_blkX ?_ ?_); (focus exact rfl)) | ((with_reducible refine r_nil (And.intro ?_ ?_)); (focus exact kr)) | (with_reducible refine r_nil ?_) | ((with_reducible apply r_put); (focus (first | exact dp | exact oc rfl (aw) | exact oc rfl (wS) | exact oc rfl (wP) | exact oc rfl (wT)))) | ((with_reducible apply r_new); (focus exact dn)) | ((with_reducible apply r_app); (focus exact da)) | ((with_reducible apply r_set); (focus exact ds)) | ((with_reducible apply r_putY); (focus exact rfl); (focus exact rfl); (focus exact tf); (focus (first | exact dp | exact oc rfl (aw) | exact oc rfl (wS) | exact oc rfl (wP) | exact oc rfl (wT)))) | ((with_reducible apply r_newY); (focus exact rfl); (focus exact rfl); (focus exact tf); (focus exact dn)) | ((with_reducible apply r_noT); (focus exact rfl); (focus exact rfl); (focus exact ff)) | ((with_reducible apply r_noF); (focus exact rfl); (focus exact rfl); (focus exact tt)) | ((with_reducible apply r_noU); (focus exact rfl); (focus exact rfl)) | ((with_reducible apply r_splitD); (focus exact rfl); (focus exact rfl)) | ((with_reducible apply r_split); (focus exact rfl); (focus exact rfl))))
    ((with_reducible first | apply q_retR | apply q_retN); (focus exact rl))
    rfl
  rw [ht] at wT
  by_cases hx : ex ≤ e
  rotate_left
  · refine ac_body Try.func13 rfl (by kernel_rfl) fun w0 ok => ?_; show AWp _ (ctx0 w0 ok _) _ (ARet _ _ _) (entry _)
    (repeat' (first | (with_reducible first | intro hg | refine awp_seq ?_ | refine q_seq ?_ | refine q_blk ?_ | refine awp_block ?_ | refine awp_skip ?_ | refine awp_ret ?_ | refine awp_exit ?_ | refine q_seqE ?_ | refine q_seqR ?_ | refine q_blkR ?_ | refine q_blkE ?_) | ((with_reducible refine awp_region ?_ ?_); (focus exact kr)) | ((with_reducible refine awp_region_any mixed ?_ ?_); (focus exact kr)) | ((with_reducible apply awp_condT); (focus exact rfl); (focus exact tt)) | ((with_reducible apply awp_condF); (focus exact rfl); (focus exact ff)) | ((with_reducible apply awp_condD); (focus exact rfl)) | ((with_reducible apply awp_condN); (focus exact rfl)) | ((with_reducible apply awp_cond); (focus exact rfl)) | ((with_reducible refine q_blkX ?_ ?_); (focus exact rfl)) | ((with_reducible refine r_nil (And.intro ?_ ?_)); (focus exact kr)) | (with_reducible refine r_nil ?_) | ((with_reducible apply r_put); (focus (first | exact dp | exact oc rfl (aw) | exact oc rfl (wS) | exact oc rfl (wP) | exact oc rfl (wT)))) | ((with_reducible apply r_new); (focus exact dn)) | ((with_reducible apply r_app); (focus exact da)) | ((with_reducible apply r_set); (focus exact ds)) | ((with_reducible apply r_putY); (focus exact rfl); (focus exact rfl); (focus exact tf); (focus (first | exact dp | exact oc rfl (aw) | exact oc rfl (wS) | exact oc rfl (wP) | exact oc rfl (wT)))) | ((with_reducible apply r_newY); (focus exact rfl); (focus exact rfl); (focus exact tf); (focus exact dn)) | ((with_reducible apply r_noT); (focus exact rfl); (focus exact rfl); (focus exact ff)) | ((with_reducible apply r_noF); (focus exact rfl); (focus exact rfl); (focus exact tt)) | ((with_reducible apply r_noU); (focus exact rfl); (focus exact rfl)) | ((with_reducible apply r_splitD); (focus exact rfl); (focus exact rfl)) | ((with_reducible apply r_split); (focus exact rfl); (focus exact rfl))))
    ((with_reducible first | apply q_retR | apply q_retN); (focus exact rl))
    rfl
  obtain ⟨⟨k1, k2, k3, k4⟩, k5, k6⟩ := stE_ok hs
  obtain ⟨k7, k8⟩ := psE_ok hp
  have k8' : 0 ≤ e ∧ e ≤ 100000 := by omega
  have k9 := thE_ok ht
  have wm1 := bmod_A mo (s.mh - s.ml + 1) hmo (by omega) (by omega)
  have wm2 := bmod_A pl (s.ph - s.pl + 1) hpl (by omega) (by omega)
  have u1 := Int.emod_nonneg mo (b := s.mh - s.ml + 1) (by omega)
  have u2 := Int.emod_lt_of_pos mo (b := s.mh - s.ml + 1) (by omega)
  have v1 := Int.emod_nonneg pl (b := s.ph - s.pl + 1) (by omega)
  have v2 := Int.emod_lt_of_pos pl (b := s.ph - s.pl + 1) (by omega)
  generalize mo % (s.mh - s.ml + 1) = u at *
  generalize pl % (s.ph - s.pl + 1) = v at *
  have j1 : 1 ≤ s.ml + u ∧ s.ml + u ≤ 1000 := by omega
  have j2 : 0 ≤ s.pl + v ∧ s.pl + v ≤ 1000 := by omega
  have j3 : s.ml ≤ s.ml + u ∧ s.ml + u ≤ s.mh := by omega
  have j4 : s.pl ≤ s.pl + v ∧ s.pl + v ≤ s.ph := by omega
  have hx1 : 1 ≤ ex ∧ ex ≤ e := by omega
  have wE := exitOf_ok (s.ml + u) (s.pl + v) g e (mtE_zero j1 j2) hp
  have wX := exSpan_ok s g e hs hp
  have wG := gpSpan_ok s e ex hs (thE_zero k8) ht hx
  have la := exF_low j1 j2 k7 k8'
  have lb := hull4_P (P := LowF) (exF_low k1 k3 k7 k8') (exF_low k1 k4 k7 k8') (exF_low k2 k3 k7 k8') (exF_low k2 k4 k7 k8')
  have lc := hull4_P (P := LowF) (gpF_low k1 k3 hx1 k8.2) (gpF_low k1 k4 hx1 k8.2) (gpF_low k2 k3 hx1 k8.2) (gpF_low k2 k4 hx1 k8.2)
  have lp := gpF_low j1 j2 hx1 k8.2
  have ib := exSp_le (g := g) (e := e) hs j3 j4
  have ic := gpSp_le hs hx j3 j4
  have it := exF_between (m := s.ml + u) (q := s.pl + v) (g := g) (e := e) (by omega) (by omega)
  have lb : LowF (exSp s g e).1 ∧ LowF (exSp s g e).2 := lb
  have lc : LowF (gpSp s e ex).1 ∧ LowF (gpSp s e ex).2 := lc
  obtain ⟨⟨q1, q2⟩, q3, q4⟩ := gpF_bnd j1 j2 hx1 k8.2
  have wL : AC Try.prog 77 [I ((s.ml + u) * ex - (s.pl + v) * (e - ex)), I (s.ml + u)] (F2 (gpF (s.ml + u) (s.pl + v) e ex)) := by
    unfold gpF
    rw [Int.mul_comm ex (s.ml + u)] at q1 q2 ⊢
    exact blowest_A _ _ ⟨by omega, by omega⟩ (by omega) (by omega)
  have hbk : ∀ p, gpF (s.ml + u) (s.pl + v) e ex = (p, 1) → inR p 0 100000 = true → AC Try.prog 64 [I (s.ml + u), I (s.pl + v), .agg [I p, I e]] (.tuple [F2 (ex, 1), I 0]) := fun p h1 h2 => by
    have h3 := exitOf_ok (s.ml + u) (s.pl + v) p e (mtE_zero j1 j2) (psE_zero (inR_true.1 h2) k8)
    rwa [back_exF (by omega) (by omega) h1] at h3
  rw [Int.mul_comm ex (s.ml + u)] at q1 q2
  generalize exF (s.ml + u) (s.pl + v) g e = a at *
  generalize gpF (s.ml + u) (s.pl + v) e ex = p at *
  generalize exSp s g e = b at *
  generalize gpSp s e ex = c at *
  obtain ⟨c1, i1, w1⟩ := cmp_le lb.1.sm la.sm ib.1
  obtain ⟨c2, i2, w2⟩ := cmp_le la.sm lb.2.sm ib.2
  obtain ⟨c3, i3, w3⟩ := cmp_ge la.sm (b := (min g e, 1)) ⟨by show (min g e).natAbs ≤ _; omega, by show (0 : Int) < 1; decide, by show (1 : Int) ≤ 1000000; decide⟩ it.1
  obtain ⟨c4, i4, w4⟩ := cmp_le la.sm (b := (max g e, 1)) ⟨by show (max g e).natAbs ≤ _; omega, by show (0 : Int) < 1; decide, by show (1 : Int) ≤ 1000000; decide⟩ it.2
  obtain ⟨c5, i5, w5⟩ := cmp_le lc.1.sm lp.sm ic.1
  obtain ⟨c6, i6, w6⟩ := cmp_le lp.sm lc.2.sm ic.2
  have s1 := lsmall_A _ la
  have s2 := lsmall_A _ lb.1
  have s3 := lsmall_A _ lb.2
  have s4 := lsmall_A _ lc.1
  have s5 := lsmall_A _ lc.2
  have wW := bwithin_A p.1 0 100000
  clear la lb lc lp ib ic it hmo hpl hs hp ht
  by_cases hd : p.2 = 1
  rotate_left
  · refine ac_body Try.func13 rfl (by kernel_rfl) fun w0 ok => ?_; show AWp _ (ctx0 w0 ok _) _ (ARet _ _ _) (entry _)
    (repeat' (first | (with_reducible first | intro hg | refine awp_seq ?_ | refine q_seq ?_ | refine q_blk ?_ | refine awp_block ?_ | refine awp_skip ?_ | refine awp_ret ?_ | refine awp_exit ?_ | refine q_seqE ?_ | refine q_seqR ?_ | refine q_blkR ?_ | refine q_blkE ?_) | ((with_reducible refine awp_region ?_ ?_); (focus exact kr)) | ((with_reducible refine awp_region_any mixed ?_ ?_); (focus exact kr)) | ((with_reducible apply awp_condT); (focus exact rfl); (focus exact tt)) | ((with_reducible apply awp_condF); (focus exact rfl); (focus exact ff)) | ((with_reducible apply awp_condD); (focus exact rfl)) | ((with_reducible apply awp_condN); (focus exact rfl)) | ((with_reducible apply awp_cond); (focus exact rfl)) | ((with_reducible refine q_blkX ?_ ?_); (focus exact rfl)) | ((with_reducible refine r_nil (And.intro ?_ ?_)); (focus exact kr)) | (with_reducible refine r_nil ?_) | ((with_reducible apply r_put); (focus (first | exact dp | exact oc rfl (aw) | exact oc rfl (wS) | exact oc rfl (wP) | exact oc rfl (wT) | exact oc rfl (wm1) | exact oc rfl (wm2) | exact oc rfl (wE) | exact oc rfl (wX) | exact oc rfl (wG) | exact oc rfl (w1) | exact oc rfl (w2) | exact oc rfl (w3) | exact oc rfl (w4) | exact oc rfl (w5) | exact oc rfl (w6) | exact oc rfl (s1) | exact oc rfl (s2) | exact oc rfl (s3) | exact oc rfl (s4) | exact oc rfl (s5) | exact oc rfl (wL) | exact oc rfl (bwhole_A _)))) | ((with_reducible apply r_new); (focus exact dn)) | ((with_reducible apply r_app); (focus exact da)) | ((with_reducible apply r_set); (focus exact ds)) | ((with_reducible apply r_putY); (focus exact rfl); (focus exact rfl); (focus exact tf); (focus (first | exact dp | exact oc rfl (aw) | exact oc rfl (wS) | exact oc rfl (wP) | exact oc rfl (wT) | exact oc rfl (wm1) | exact oc rfl (wm2) | exact oc rfl (wE) | exact oc rfl (wX) | exact oc rfl (wG) | exact oc rfl (w1) | exact oc rfl (w2) | exact oc rfl (w3) | exact oc rfl (w4) | exact oc rfl (w5) | exact oc rfl (w6) | exact oc rfl (s1) | exact oc rfl (s2) | exact oc rfl (s3) | exact oc rfl (s4) | exact oc rfl (s5) | exact oc rfl (wL) | exact oc rfl (bwhole_A _)))) | ((with_reducible apply r_newY); (focus exact rfl); (focus exact rfl); (focus exact tf); (focus exact dn)) | ((with_reducible apply r_noT); (focus exact rfl); (focus exact rfl); (focus exact ff)) | ((with_reducible apply r_noF); (focus exact rfl); (focus exact rfl); (focus exact tt)) | ((with_reducible apply r_noU); (focus exact rfl); (focus exact rfl)) | ((with_reducible apply r_splitD); (focus exact rfl); (focus exact rfl)) | ((with_reducible apply r_split); (focus exact rfl); (focus exact rfl))))
    ((with_reducible first | apply q_retR | apply q_retN); (focus exact rl))
    rfl
  cases hw : inR p.1 0 100000
  · rw [hw] at wW
    refine ac_body Try.func13 rfl (by kernel_rfl) fun w0 ok => ?_; show AWp _ (ctx0 w0 ok _) _ (ARet _ _ _) (entry _)
    (repeat' (first | (with_reducible first | intro hg | refine awp_seq ?_ | refine q_seq ?_ | refine q_blk ?_ | refine awp_block ?_ | refine awp_skip ?_ | refine awp_ret ?_ | refine awp_exit ?_ | refine q_seqE ?_ | refine q_seqR ?_ | refine q_blkR ?_ | refine q_blkE ?_) | ((with_reducible refine awp_region ?_ ?_); (focus exact kr)) | ((with_reducible refine awp_region_any mixed ?_ ?_); (focus exact kr)) | ((with_reducible apply awp_condT); (focus exact rfl); (focus exact tt)) | ((with_reducible apply awp_condF); (focus exact rfl); (focus exact ff)) | ((with_reducible apply awp_condD); (focus exact rfl)) | ((with_reducible apply awp_condN); (focus exact rfl)) | ((with_reducible apply awp_cond); (focus exact rfl)) | ((with_reducible refine q_blkX ?_ ?_); (focus exact rfl)) | ((with_reducible refine r_nil (And.intro ?_ ?_)); (focus exact kr)) | (with_reducible refine r_nil ?_) | ((with_reducible apply r_put); (focus (first | exact dp | exact oc rfl (aw) | exact oc rfl (wS) | exact oc rfl (wP) | exact oc rfl (wT) | exact oc rfl (wm1) | exact oc rfl (wm2) | exact oc rfl (wE) | exact oc rfl (wX) | exact oc rfl (wG) | exact oc rfl (w1) | exact oc rfl (w2) | exact oc rfl (w3) | exact oc rfl (w4) | exact oc rfl (w5) | exact oc rfl (w6) | exact oc rfl (s1) | exact oc rfl (s2) | exact oc rfl (s3) | exact oc rfl (s4) | exact oc rfl (s5) | exact oc rfl (wL) | exact oc rfl (bwhole_A _) | exact oc rfl (wW)))) | ((with_reducible apply r_new); (focus exact dn)) | ((with_reducible apply r_app); (focus exact da)) | ((with_reducible apply r_set); (focus exact ds)) | ((with_reducible apply r_putY); (focus exact rfl); (focus exact rfl); (focus exact tf); (focus (first | exact dp | exact oc rfl (aw) | exact oc rfl (wS) | exact oc rfl (wP) | exact oc rfl (wT) | exact oc rfl (wm1) | exact oc rfl (wm2) | exact oc rfl (wE) | exact oc rfl (wX) | exact oc rfl (wG) | exact oc rfl (w1) | exact oc rfl (w2) | exact oc rfl (w3) | exact oc rfl (w4) | exact oc rfl (w5) | exact oc rfl (w6) | exact oc rfl (s1) | exact oc rfl (s2) | exact oc rfl (s3) | exact oc rfl (s4) | exact oc rfl (s5) | exact oc rfl (wL) | exact oc rfl (bwhole_A _) | exact oc rfl (wW)))) | ((with_reducible apply r_newY); (focus exact rfl); (focus exact rfl); (focus exact tf); (focus exact dn)) | ((with_reducible apply r_noT); (focus exact rfl); (focus exact rfl); (focus exact ff)) | ((with_reducible apply r_noF); (focus exact rfl); (focus exact rfl); (focus exact tt)) | ((with_reducible apply r_noU); (focus exact rfl); (focus exact rfl)) | ((with_reducible apply r_splitD); (focus exact rfl); (focus exact rfl)) | ((with_reducible apply r_split); (focus exact rfl); (focus exact rfl))))
    ((with_reducible first | apply q_retR | apply q_retN); (focus exact rl))
    rfl
  · have wB := hbk p.1 (Prod.ext rfl hd) hw
    rw [hw] at wW
    refine ac_body Try.func13 rfl (by kernel_rfl) fun w0 ok => ?_; show AWp _ (ctx0 w0 ok _) _ (ARet _ _ _) (entry _)
    (repeat' (first | (with_reducible first | intro hg | refine awp_seq ?_ | refine q_seq ?_ | refine q_blk ?_ | refine awp_block ?_ | refine awp_skip ?_ | refine awp_ret ?_ | refine awp_exit ?_ | refine q_seqE ?_ | refine q_seqR ?_ | refine q_blkR ?_ | refine q_blkE ?_) | ((with_reducible refine awp_region ?_ ?_); (focus exact kr)) | ((with_reducible refine awp_region_any mixed ?_ ?_); (focus exact kr)) | ((with_reducible apply awp_condT); (focus exact rfl); (focus exact tt)) | ((with_reducible apply awp_condF); (focus exact rfl); (focus exact ff)) | ((with_reducible apply awp_condD); (focus exact rfl)) | ((with_reducible apply awp_condN); (focus exact rfl)) | ((with_reducible apply awp_cond); (focus exact rfl)) | ((with_reducible refine q_blkX ?_ ?_); (focus exact rfl)) | ((with_reducible refine r_nil (And.intro ?_ ?_)); (focus exact kr)) | (with_reducible refine r_nil ?_) | ((with_reducible apply r_put); (focus (first | exact o_eqlS rfl rfl rfl rfl | exact dp | exact oc rfl (aw) | exact oc rfl (wS) | exact oc rfl (wP) | exact oc rfl (wT) | exact oc rfl (wm1) | exact oc rfl (wm2) | exact oc rfl (wE) | exact oc rfl (wX) | exact oc rfl (wG) | exact oc rfl (w1) | exact oc rfl (w2) | exact oc rfl (w3) | exact oc rfl (w4) | exact oc rfl (w5) | exact oc rfl (w6) | exact oc rfl (s1) | exact oc rfl (s2) | exact oc rfl (s3) | exact oc rfl (s4) | exact oc rfl (s5) | exact oc rfl (wL) | exact oc rfl (bwhole_A _) | exact oc rfl (wW) | exact oc rfl (wB)))) | ((with_reducible apply r_new); (focus exact dn)) | ((with_reducible apply r_app); (focus exact da)) | ((with_reducible apply r_set); (focus exact ds)) | ((with_reducible apply r_putY); (focus exact rfl); (focus exact rfl); (focus exact tf); (focus (first | exact o_eqlS rfl rfl rfl rfl | exact dp | exact oc rfl (aw) | exact oc rfl (wS) | exact oc rfl (wP) | exact oc rfl (wT) | exact oc rfl (wm1) | exact oc rfl (wm2) | exact oc rfl (wE) | exact oc rfl (wX) | exact oc rfl (wG) | exact oc rfl (w1) | exact oc rfl (w2) | exact oc rfl (w3) | exact oc rfl (w4) | exact oc rfl (w5) | exact oc rfl (w6) | exact oc rfl (s1) | exact oc rfl (s2) | exact oc rfl (s3) | exact oc rfl (s4) | exact oc rfl (s5) | exact oc rfl (wL) | exact oc rfl (bwhole_A _) | exact oc rfl (wW) | exact oc rfl (wB)))) | ((with_reducible apply r_newY); (focus exact rfl); (focus exact rfl); (focus exact tf); (focus exact dn)) | ((with_reducible apply r_noT); (focus exact rfl); (focus exact rfl); (focus exact ff)) | ((with_reducible apply r_noF); (focus exact rfl); (focus exact rfl); (focus exact tt)) | ((with_reducible apply r_noU); (focus exact rfl); (focus exact rfl)) | ((with_reducible apply r_splitD); (focus exact rfl); (focus exact rfl)) | ((with_reducible apply r_split); (focus exact rfl); (focus exact rfl))))
    ((with_reducible first | apply q_retR | apply q_retN); (focus exact rl))
    rfl

end Go.Proofs.Ytniilkoggpghdaa
