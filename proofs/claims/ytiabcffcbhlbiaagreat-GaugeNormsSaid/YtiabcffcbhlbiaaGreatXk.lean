/- The law of norms. -/
import Derived.Test.YtiabcffcbhlbiaaGreatSn
import Derived.Test.YtiabcffcbhlbiaaGreatTd
set_option linter.unusedVariables false
set_option linter.unusedSimpArgs false
namespace Go.Proofs.YtiabcffcbhlbiaaGreat
open Go.RowKit
set_option maxRecDepth 20000
set_option maxHeartbeats 8000000

theorem gaugeNorms_A (aw : AC Tryz.prog 9 [] (B true)) (c : List Rg) (den s : Int) (w : List Int) (hc : c.length ≤ 140737488355328) (hw : w.length ≤ 140737488355328) : AC Tryz.prog 4 [loV c den, .agg (prI s w)] (B true) := by
  have wf := few_A c den
  have ws := short_A w
  by_cases g1 : (c.length : Int) ≤ 5
  rotate_left
  · rw [decide_eq_false g1] at wf
    refine ac_body Tryz.func4 rfl (by kernel_rfl) fun w0 ok => ?_; show AWp _ (ctx0 w0 ok _) _ (ARet _ _ _) (entry _)
    (repeat' (first | (with_reducible first | intro hg | refine mv (by constructor) ?_) | ((with_reducible first | refine zR ?_ ?_ | refine zW mixed ?_ ?_); exact kr) | ((with_reducible apply zK); exact rfl; exact tf) | ((with_reducible apply zCD); exact rfl) | ((with_reducible apply zCN); exact rfl) | ((with_reducible apply zC); exact rfl) | ((with_reducible refine zX ?_ ?_); exact rfl) | ((with_reducible refine zE (And.intro ?_ ?_)); exact kr) | (with_reducible refine zE ?_) | ((with_reducible apply zP); (first | exact dp | exact oc rfl (aw) | exact oc rfl (wf))) | ((with_reducible apply zN); exact dn) | ((with_reducible apply zA); exact da) | ((with_reducible apply zS); exact ds) | ((with_reducible apply zY); exact rfl; exact rfl; exact tf) | ((with_reducible apply zG); exact rfl; exact rfl; exact tf) | ((with_reducible apply zU); exact rfl; exact rfl) | ((with_reducible apply zD); exact rfl; exact rfl) | ((with_reducible apply zB); exact rfl; exact rfl)))
    ((with_reducible first | apply q_retR | apply q_retN); exact rl)
    rfl
  rw [decide_eq_true g1] at wf
  by_cases g2 : (w.length : Int) ≤ 5
  rotate_left
  · rw [decide_eq_false g2] at ws
    refine ac_body Tryz.func4 rfl (by kernel_rfl) fun w0 ok => ?_; show AWp _ (ctx0 w0 ok _) _ (ARet _ _ _) (entry _)
    (repeat' (first | (with_reducible first | intro hg | refine mv (by constructor) ?_) | ((with_reducible first | refine zR ?_ ?_ | refine zW mixed ?_ ?_); exact kr) | ((with_reducible apply zK); exact rfl; exact tf) | ((with_reducible apply zCD); exact rfl) | ((with_reducible apply zCN); exact rfl) | ((with_reducible apply zC); exact rfl) | ((with_reducible refine zX ?_ ?_); exact rfl) | ((with_reducible refine zE (And.intro ?_ ?_)); exact kr) | (with_reducible refine zE ?_) | ((with_reducible apply zP); (first | exact dp | exact oc rfl (aw) | exact oc rfl (wf) | exact oc rfl (ws))) | ((with_reducible apply zN); exact dn) | ((with_reducible apply zA); exact da) | ((with_reducible apply zS); exact ds) | ((with_reducible apply zY); exact rfl; exact rfl; exact tf) | ((with_reducible apply zG); exact rfl; exact rfl; exact tf) | ((with_reducible apply zU); exact rfl; exact rfl) | ((with_reducible apply zD); exact rfl; exact rfl) | ((with_reducible apply zB); exact rfl; exact rfl)))
    ((with_reducible first | apply q_retR | apply q_retN); exact rl)
    rfl
  rw [decide_eq_true g2] at ws
  have wc := qcopy_A c den (by omega)
  have wp := copyProof_A s w (by omega)
  have wl := qloopErr_A c den hc
  by_cases hl : loE c den = 0
  rotate_left
  · have e1 := prE_lo (s := s) (w := w) hl
    have w1 := normOf_err c den s w hc hw (by rw [e1]; exact hl)
    have w2 := checkSettling_err c den s w hc hw (by rw [e1]; exact hl)
    have w3 := settlingOf_err c den hc hl
    rw [e1] at w1 w2
    clear e1 hc hw
    generalize loE c den = u at *
    refine ac_body Tryz.func4 rfl (by kernel_rfl) fun w0 ok => ?_; show AWp _ (ctx0 w0 ok _) _ (ARet _ _ _) (entry _)
    (repeat' (first | (with_reducible first | intro hg | refine mv (by constructor) ?_) | ((with_reducible first | refine zR ?_ ?_ | refine zW mixed ?_ ?_); exact kr) | ((with_reducible apply zK); exact rfl; exact tf) | ((with_reducible apply zCD); exact rfl) | ((with_reducible apply zCN); exact rfl) | ((with_reducible apply zC); exact rfl) | ((with_reducible refine zX ?_ ?_); exact rfl) | ((with_reducible refine zE (And.intro ?_ ?_)); exact kr) | (with_reducible refine zE ?_) | ((with_reducible apply zP); (first | exact o_eqlS rfl rfl rfl rfl | exact dp | exact oc rfl (aw) | exact oc rfl (wf) | exact oc rfl (ws) | exact oc rfl (wc) | exact oc rfl (wp) | exact oc rfl (wl) | exact oc rfl (w1) | exact oc rfl (w2) | exact oc rfl (w3))) | ((with_reducible apply zN); exact dn) | ((with_reducible apply zA); exact da) | ((with_reducible apply zS); exact ds) | ((with_reducible apply zY); exact rfl; exact rfl; exact tf) | ((with_reducible apply zG); exact rfl; exact rfl; exact tf) | ((with_reducible apply zU); exact rfl; exact rfl) | ((with_reducible apply zD); exact rfl; exact rfl) | ((with_reducible apply zB); exact rfl; exact rfl)))
    ((with_reducible first | apply q_retR | apply q_retN); exact rl)
    rfl
  have hL := loE_ok hl
  have w3 := settlingOf_q c den hl
  have w4 := qsettlingOf_A c den hL
  have w5 := qproofErr_A c den s w hc hw
  have hi := ints_A (onesL c.length) (onesL c.length) (by rw [lst_length]; omega) (by rw [lst_length]; omega)
  rw [decide_eq_true rfl] at hi
  have hF := fstS_rng (c := c) (den := den) 6 1
  have e1 := prE_eq (s := s) (w := w) hl
  rw [hl] at wl
  generalize fstS c den 1 6 = F at *
  have hE : ∃ f1 e1 f2 e2, AC Tryz.prog 26 [loV c den, .agg (prI s w)] (.tuple [F2 f1, I e1]) ∧ AC Tryz.prog 28 [loV c den, .agg (prI s w)] (.tuple [F2 f2, I e2]) ∧
      ((pfE c s w ≠ 0 ∧ f1 = (0, 0) ∧ f2 = (0, 0) ∧ e1 = pfE c s w ∧ e2 = pfE c s w) ∨ (pfE c s w = 0 ∧ AC Tryz.prog 33 [loV c den, .agg (prI s w)] (.tuple [F2 f1, I e1]) ∧ AC Tryz.prog 34 [loV c den, .agg (prI s w)] (.tuple [F2 f2, I e2]))) := by
    by_cases hp : pfE c s w = 0
    · obtain ⟨k, rfl, hk⟩ := pfE_ok hp
      exact ⟨_, _, _, _, normOf_q c den hl k w hk, checkSettling_q c den hl k w hk, .inr ⟨hp, qnormOf_A c den hL k w hk, qcheckSettling_A c den hL k w hk⟩⟩
    · have w1 := normOf_err c den s w hc hw (by rw [e1]; exact hp)
      have w2 := checkSettling_err c den s w hc hw (by rw [e1]; exact hp)
      rw [e1] at w1 w2
      exact ⟨_, _, _, _, w1, w2, .inl ⟨hp, rfl, rfl, rfl, rfl⟩⟩
  obtain ⟨f1, e1, f2, e2, w1, w2, hE⟩ := hE
  generalize pfE c s w = u at *
  clear hL hl hc hw
  rcases F with _ | F
  · rcases hE with ⟨hu, rfl, rfl, rfl, rfl⟩ | ⟨rfl, w6, w7⟩
    · refine ac_body Tryz.func4 rfl (by kernel_rfl) fun w0 ok => ?_; show AWp _ (ctx0 w0 ok _) _ (ARet _ _ _) (entry _)
      (repeat' (first | (with_reducible first | intro hg | refine mv (by constructor) ?_) | ((with_reducible first | refine zR ?_ ?_ | refine zW mixed ?_ ?_); exact kr) | ((with_reducible apply zK); exact rfl; exact tf) | ((with_reducible apply zCD); exact rfl) | ((with_reducible apply zCN); exact rfl) | ((with_reducible apply zC); exact rfl) | ((with_reducible refine zX ?_ ?_); exact rfl) | ((with_reducible refine zE (And.intro ?_ ?_)); exact kr) | (with_reducible refine zE ?_) | ((with_reducible apply zP); (first | exact o_eqlS rfl rfl rfl rfl | exact dp | exact oc rfl (aw) | exact oc rfl (wf) | exact oc rfl (ws) | exact oc rfl (wc) | exact oc rfl (wp) | exact oc rfl (wl) | exact oc rfl (w1) | exact oc rfl (w2) | exact oc rfl (w3) | exact oc rfl (w4) | exact oc rfl (w5))) | ((with_reducible apply zN); exact dn) | ((with_reducible apply zA); exact da) | ((with_reducible apply zS); exact ds) | ((with_reducible apply zY); exact rfl; exact rfl; exact tf) | ((with_reducible apply zG); exact rfl; exact rfl; exact tf) | ((with_reducible apply zU); exact rfl; exact rfl) | ((with_reducible apply zD); exact rfl; exact rfl) | ((with_reducible apply zB); exact rfl; exact rfl)))
      ((with_reducible first | apply q_retR | apply q_retN); exact rl)
      rfl
    · refine ac_body Tryz.func4 rfl (by kernel_rfl) fun w0 ok => ?_; show AWp _ (ctx0 w0 ok _) _ (ARet _ _ _) (entry _)
      (repeat' (first | (with_reducible first | intro hg | refine mv (by constructor) ?_) | ((with_reducible first | refine zR ?_ ?_ | refine zW mixed ?_ ?_); exact kr) | ((with_reducible apply zK); exact rfl; exact tf) | ((with_reducible apply zCD); exact rfl) | ((with_reducible apply zCN); exact rfl) | ((with_reducible apply zC); exact rfl) | ((with_reducible refine zX ?_ ?_); exact rfl) | ((with_reducible refine zE (And.intro ?_ ?_)); exact kr) | (with_reducible refine zE ?_) | ((with_reducible apply zP); (first | exact o_eqlS rfl rfl rfl rfl | exact dp | exact oc rfl (aw) | exact oc rfl (wf) | exact oc rfl (ws) | exact oc rfl (wc) | exact oc rfl (wp) | exact oc rfl (wl) | exact oc rfl (w1) | exact oc rfl (w2) | exact oc rfl (w3) | exact oc rfl (w4) | exact oc rfl (w5) | exact oc rfl (w6) | exact oc rfl (w7))) | ((with_reducible apply zN); exact dn) | ((with_reducible apply zA); exact da) | ((with_reducible apply zS); exact ds) | ((with_reducible apply zY); exact rfl; exact rfl; exact tf) | ((with_reducible apply zG); exact rfl; exact rfl; exact tf) | ((with_reducible apply zU); exact rfl; exact rfl) | ((with_reducible apply zD); exact rfl; exact rfl) | ((with_reducible apply zB); exact rfl; exact rfl)))
      ((with_reducible first | apply q_retR | apply q_retN); exact rl)
      rfl
  · rcases hE with ⟨hu, rfl, rfl, rfl, rfl⟩ | ⟨rfl, w6, w7⟩
    · refine ac_body Tryz.func4 rfl (by kernel_rfl) fun w0 ok => ?_; show AWp _ (ctx0 w0 ok _) _ (ARet _ _ _) (entry _)
      (repeat' (first | (with_reducible first | intro hg | refine mv (by constructor) ?_) | ((with_reducible first | refine zR ?_ ?_ | refine zW mixed ?_ ?_); exact kr) | ((with_reducible apply zK); exact rfl; exact tf) | ((with_reducible apply zCD); exact rfl) | ((with_reducible apply zCN); exact rfl) | ((with_reducible apply zC); exact rfl) | ((with_reducible refine zX ?_ ?_); exact rfl) | ((with_reducible refine zE (And.intro ?_ ?_)); exact kr) | (with_reducible refine zE ?_) | ((with_reducible apply zP); (first | exact o_eqlS rfl rfl rfl rfl | exact dp | exact oc rfl (aw) | exact oc rfl (wf) | exact oc rfl (ws) | exact oc rfl (wc) | exact oc rfl (wp) | exact oc rfl (wl) | exact oc rfl (w1) | exact oc rfl (w2) | exact oc rfl (w3) | exact oc rfl (w4) | exact oc rfl (w5) | exact oc rfl (hi))) | ((with_reducible apply zN); exact dn) | ((with_reducible apply zA); exact da) | ((with_reducible apply zS); exact ds) | ((with_reducible apply zY); exact rfl; exact rfl; exact tf) | ((with_reducible apply zG); exact rfl; exact rfl; exact tf) | ((with_reducible apply zU); exact rfl; exact rfl) | ((with_reducible apply zD); exact rfl; exact rfl) | ((with_reducible apply zB); exact rfl; exact rfl)))
      ((with_reducible first | apply q_retR | apply q_retN); exact rl)
      rfl
    · refine ac_body Tryz.func4 rfl (by kernel_rfl) fun w0 ok => ?_; show AWp _ (ctx0 w0 ok _) _ (ARet _ _ _) (entry _)
      (repeat' (first | (with_reducible first | intro hg | refine mv (by constructor) ?_) | ((with_reducible first | refine zR ?_ ?_ | refine zW mixed ?_ ?_); exact kr) | ((with_reducible apply zK); exact rfl; exact tf) | ((with_reducible apply zCD); exact rfl) | ((with_reducible apply zCN); exact rfl) | ((with_reducible apply zC); exact rfl) | ((with_reducible refine zX ?_ ?_); exact rfl) | ((with_reducible refine zE (And.intro ?_ ?_)); exact kr) | (with_reducible refine zE ?_) | ((with_reducible apply zP); (first | exact o_eqlS rfl rfl rfl rfl | exact dp | exact oc rfl (aw) | exact oc rfl (wf) | exact oc rfl (ws) | exact oc rfl (wc) | exact oc rfl (wp) | exact oc rfl (wl) | exact oc rfl (w1) | exact oc rfl (w2) | exact oc rfl (w3) | exact oc rfl (w4) | exact oc rfl (w5) | exact oc rfl (w6) | exact oc rfl (w7) | exact oc rfl (hi))) | ((with_reducible apply zN); exact dn) | ((with_reducible apply zA); exact da) | ((with_reducible apply zS); exact ds) | ((with_reducible apply zY); exact rfl; exact rfl; exact tf) | ((with_reducible apply zG); exact rfl; exact rfl; exact tf) | ((with_reducible apply zU); exact rfl; exact rfl) | ((with_reducible apply zD); exact rfl; exact rfl) | ((with_reducible apply zB); exact rfl; exact rfl)))
      ((with_reducible first | apply q_retR | apply q_retN); exact rl)
      rfl

end Go.Proofs.YtiabcffcbhlbiaaGreat
