/- The law of responses. -/
import Derived.Test.YtiabcffcbhlbiaaGreatSw
import Derived.Test.YtiabcffcbhlbiaaGreatTd
set_option linter.unusedVariables false
set_option linter.unusedSimpArgs false
namespace Go.Proofs.YtiabcffcbhlbiaaGreat
open Go.RowKit
set_option maxRecDepth 20000
set_option maxHeartbeats 16000000

theorem rsE_lo {c : List Rg} {den s : Int} (h : exE c den ≠ 0) : rsE c den s = exE c den := fst0_ne h _
theorem gnE_lo {c : List Rg} {den s : Int} {w : List Int} (h : exE c den ≠ 0) : gnE c den s w = exE c den := fst0_ne h _
theorem rsE_eq {c : List Rg} {den s : Int} (h : exE c den = 0) : rsE c den s = unl (inR s 0 8) 2 := by
  unfold rsE
  rw [h]
  exact (fst0_zero _).trans (fst0_one _)
theorem gnE_eq {c : List Rg} {den s : Int} {w : List Int} (h : exE c den = 0) (h2 : loE c den = 0) : gnE c den s w = pfE c s w := by
  unfold gnE
  rw [h, prE_eq h2]
  exact (fst0_zero _).trans (fst0_one _)
/-- What both answer for a proof. -/
theorem gain_both (c : List Rg) (den s : Int) (w : List Int) (hc : c.length ≤ 140737488355328) (hw : w.length ≤ 140737488355328) (h : loE c den = 0) (hx : exB c = true) (hp0 : pfE c s w = 0) : ∃ G : Fr × Int, AC Tryz.prog 36 [loV c den, .agg (prI s w)] (.tuple [F2 G.1, I G.2]) ∧ AC Tryz.prog 39 [loV c den, .agg (prI s w)] (.tuple [F2 G.1, I G.2]) := by
  obtain ⟨m0, rfl, hp⟩ := pfE_ok hp0
  obtain ⟨m, rfl⟩ : ∃ m, m0 = m + 1 := ⟨m0 - 1, by have := hp.s1; omega⟩
  refine ⟨gnR c den (m + 1) w, ?_, qgainBound_A c den (loE_ok h) m w hp⟩
  unfold gnR
  cases hn : decide (nrm c den (m + 1) w < 1)
  · exact gainBound_no c den h hx (m + 1) w hp hn
  · exact gainBound_yes c den h hx m w hp (of_decide_eq_true hn)
theorem gaugeResponses_A (aw : AC Tryz.prog 9 [] (B true)) (c : List Rg) (den n s : Int) (w : List Int) (hc : c.length ≤ 140737488355328) (hw : w.length ≤ 140737488355328) :
    AC Tryz.prog 5 [loV c den, I n, .agg (prI s w)] (B true) := by
  have wf := few_A c den
  have ws := short_A w
  have wl := qloopErr_A c den hc
  have we := qisExact_A c den hc
  by_cases g1 : (c.length : Int) ≤ 5
  rotate_left
  · rw [decide_eq_false g1] at wf
    refine ac_body Tryz.func5 rfl (by kernel_rfl) fun w0 ok => ?_; show AWp _ (ctx0 w0 ok _) _ (ARet _ _ _) (entry _)
    exact zF
  rw [decide_eq_true g1] at wf
  by_cases g2 : (w.length : Int) ≤ 5
  rotate_left
  · rw [decide_eq_false g2] at ws
    refine ac_body Tryz.func5 rfl (by kernel_rfl) fun w0 ok => ?_; show AWp _ (ctx0 w0 ok _) _ (ARet _ _ _) (entry _)
    exact zF
  rw [decide_eq_true g2] at ws
  have wcp := qcopy_A c den (by omega)
  have wpr := copyProof_A s w (by omega)
  by_cases g3 : loE c den = 0
  rotate_left
  · have e := exE_lo g3
    have hx : exE c den ≠ 0 := by rw [e]; exact g3
    have h1 := responseOf_err c den n hc (by rw [rsE_lo hx]; exact hx)
    have h2 := gainBound_err c den s w hc hw (by rw [gnE_lo hx]; exact hx)
    rw [rsE_lo hx, e] at h1
    rw [gnE_lo hx, e] at h2
    clear e hx
    generalize loE c den = u at *
    refine ac_body Tryz.func5 rfl (by kernel_rfl) fun w0 ok => ?_; show AWp _ (ctx0 w0 ok _) _ (ARet _ _ _) (entry _)
    exact zF
  rw [g3] at wl
  have ex := exE_eq g3
  cases g4 : exB c
  · rw [g4] at we ex
    have ex : exE c den = 3 := ex
    have hx : exE c den ≠ 0 := by rw [ex]; decide
    have h1 := responseOf_err c den n hc (by rw [rsE_lo hx]; exact hx)
    have h2 := gainBound_err c den s w hc hw (by rw [gnE_lo hx]; exact hx)
    rw [rsE_lo hx, ex] at h1
    rw [gnE_lo hx, ex] at h2
    clear ex hx
    refine ac_body Tryz.func5 rfl (by kernel_rfl) fun w0 ok => ?_; show AWp _ (ctx0 w0 ok _) _ (ARet _ _ _) (entry _)
    exact zF
  rw [g4] at we ex
  have ex : exE c den = 0 := ex
  have hL := loE_ok g3
  have wp := qproofErr_A c den s w hc hw
  have wn := bwithin_A n 0 8
  obtain ⟨L, e1, hr1, hr2⟩ : ∃ (L : List Fr) (e1 : Int), AC Tryz.prog 35 [loV c den, I n] (.tuple [frV L, I e1]) ∧ ((inR n 0 8 = false ∧ L = [] ∧ e1 = 2) ∨ (inR n 0 8 = true ∧ L.length ≤ 140737488355328 ∧ AC Tryz.prog 38 [loV c den, I n] (.tuple [frV L, I e1]))) := by
    cases hn : inR n 0 8
    · have e2 := rsE_eq (s := n) ex
      rw [hn] at e2
      have e2 : rsE c den n = 2 := e2
      have h1 := responseOf_err c den n hc (by rw [e2]; decide)
      rw [e2] at h1
      exact ⟨[], 2, h1, .inl ⟨rfl, rfl, rfl⟩⟩
    · obtain ⟨k1, k2⟩ := inR_true.1 hn
      obtain ⟨k, rfl⟩ := Int.eq_ofNat_of_zero_le k1
      refine ⟨_, _, responseOf_ok c den g3 g4 k (by omega), .inr ⟨rfl, ?_, qresponseOf_A c den hL k (by omega)⟩⟩
      unfold rsV
      cases (List.range k).all fun t => smQ (rsp den (losL c) (t + 1))
      · exact Nat.zero_le _
      · show ((1, 1) :: (List.range k).map (fun t => qF (rsp den (losL c) (t + 1)))).length ≤ _
        rw [List.length_cons, List.length_map, List.length_range]
        omega
  by_cases g5 : pfE c s w = 0
  · obtain ⟨G, hg1, hg2⟩ := gain_both c den s w hc hw g3 g4 g5
    rw [g5] at wp
    rcases hr2 with ⟨hn, rfl, rfl⟩ | ⟨hn, hLl, hq⟩
    · rw [hn] at wn
      refine ac_body Tryz.func5 rfl (by kernel_rfl) fun w0 ok => ?_; show AWp _ (ctx0 w0 ok _) _ (ARet _ _ _) (entry _)
      (repeat' (first | (with_reducible first | intro hg | refine mv (by constructor) ?_) | ((with_reducible first | refine zR ?_ ?_ | refine zW mixed ?_ ?_); exact kr) | ((with_reducible apply zK); exact rfl; exact tf) | ((with_reducible apply zCD); exact rfl) | ((with_reducible apply zCN); exact rfl) | ((with_reducible apply zC); exact rfl) | ((with_reducible refine zX ?_ ?_); exact rfl) | ((with_reducible refine zE (And.intro ?_ ?_)); exact kr) | (with_reducible refine zE ?_) | ((with_reducible apply zP); (first | exact dp | exact oc rfl (aw) | exact oc rfl (wf) | exact oc rfl (ws) | exact oc rfl (wl) | exact oc rfl (we) | exact oc rfl (wcp) | exact oc rfl (wpr) | exact oc rfl (wp) | exact oc rfl (wn) | exact oc rfl (hr1) | exact oc rfl (hg1) | exact oc rfl (hg2))) | ((with_reducible apply zN); exact dn) | ((with_reducible apply zA); exact da) | ((with_reducible apply zS); exact ds) | ((with_reducible apply zY); exact rfl; exact rfl; exact tf) | ((with_reducible apply zG); exact rfl; exact rfl; exact tf) | ((with_reducible apply zU); exact rfl; exact rfl) | ((with_reducible apply zD); exact rfl; exact rfl) | ((with_reducible apply zB); exact rfl; exact rfl)))
      all_goals first | (((with_reducible first | apply q_retR | apply q_retN); exact rl); rfl) | (((with_reducible first | apply q_retR | apply q_retN); exact rl); exact rt_bool (decide_eq_true rfl).symm)
    · rw [hn] at wn
      have hfr := fracs_A L hLl
      refine ac_body Tryz.func5 rfl (by kernel_rfl) fun w0 ok => ?_; show AWp _ (ctx0 w0 ok _) _ (ARet _ _ _) (entry _)
      (repeat' (first | (with_reducible first | intro hg | refine mv (by constructor) ?_) | ((with_reducible first | refine zR ?_ ?_ | refine zW mixed ?_ ?_); exact kr) | ((with_reducible apply zK); exact rfl; exact tf) | ((with_reducible apply zCD); exact rfl) | ((with_reducible apply zCN); exact rfl) | ((with_reducible apply zC); exact rfl) | ((with_reducible refine zX ?_ ?_); exact rfl) | ((with_reducible refine zE (And.intro ?_ ?_)); exact kr) | (with_reducible refine zE ?_) | ((with_reducible apply zP); (first | exact dp | exact oc rfl (aw) | exact oc rfl (wf) | exact oc rfl (ws) | exact oc rfl (wl) | exact oc rfl (we) | exact oc rfl (wcp) | exact oc rfl (wpr) | exact oc rfl (wp) | exact oc rfl (wn) | exact oc rfl (hr1) | exact oc rfl (hq) | exact oc rfl (hfr) | exact oc rfl (hg1) | exact oc rfl (hg2))) | ((with_reducible apply zN); exact dn) | ((with_reducible apply zA); exact da) | ((with_reducible apply zS); exact ds) | ((with_reducible apply zY); exact rfl; exact rfl; exact tf) | ((with_reducible apply zG); exact rfl; exact rfl; exact tf) | ((with_reducible apply zU); exact rfl; exact rfl) | ((with_reducible apply zD); exact rfl; exact rfl) | ((with_reducible apply zB); exact rfl; exact rfl)))
      all_goals first | (((with_reducible first | apply q_retR | apply q_retN); exact rl); rfl) | (((with_reducible first | apply q_retR | apply q_retN); exact rl); exact rt_bool (decide_eq_true rfl).symm)
  · have e3 : gnE c den s w = pfE c s w := gnE_eq ex g3
    have hg1 := gainBound_err c den s w hc hw (by rw [e3]; exact g5)
    rw [e3] at hg1
    clear e3
    generalize pfE c s w = u at *
    rcases hr2 with ⟨hn, rfl, rfl⟩ | ⟨hn, hLl, hq⟩
    · rw [hn] at wn
      refine ac_body Tryz.func5 rfl (by kernel_rfl) fun w0 ok => ?_; show AWp _ (ctx0 w0 ok _) _ (ARet _ _ _) (entry _)
      (repeat' (first | (with_reducible first | intro hg | refine mv (by constructor) ?_) | ((with_reducible first | refine zR ?_ ?_ | refine zW mixed ?_ ?_); exact kr) | ((with_reducible apply zK); exact rfl; exact tf) | ((with_reducible apply zCD); exact rfl) | ((with_reducible apply zCN); exact rfl) | ((with_reducible apply zC); exact rfl) | ((with_reducible refine zX ?_ ?_); exact rfl) | ((with_reducible refine zE (And.intro ?_ ?_)); exact kr) | (with_reducible refine zE ?_) | ((with_reducible apply zP); (first | exact dp | exact oc rfl (aw) | exact oc rfl (wf) | exact oc rfl (ws) | exact oc rfl (wl) | exact oc rfl (we) | exact oc rfl (wcp) | exact oc rfl (wpr) | exact oc rfl (wp) | exact oc rfl (wn) | exact oc rfl (hr1) | exact oc rfl (hg1))) | ((with_reducible apply zN); exact dn) | ((with_reducible apply zA); exact da) | ((with_reducible apply zS); exact ds) | ((with_reducible apply zY); exact rfl; exact rfl; exact tf) | ((with_reducible apply zG); exact rfl; exact rfl; exact tf) | ((with_reducible apply zU); exact rfl; exact rfl) | ((with_reducible apply zD); exact rfl; exact rfl) | ((with_reducible apply zB); exact rfl; exact rfl)))
      all_goals first | (((with_reducible first | apply q_retR | apply q_retN); exact rl); rfl) | (((with_reducible first | apply q_retR | apply q_retN); exact rl); exact rt_bool (decide_eq_true rfl).symm)
    · rw [hn] at wn
      have hfr := fracs_A L hLl
      refine ac_body Tryz.func5 rfl (by kernel_rfl) fun w0 ok => ?_; show AWp _ (ctx0 w0 ok _) _ (ARet _ _ _) (entry _)
      (repeat' (first | (with_reducible first | intro hg | refine mv (by constructor) ?_) | ((with_reducible first | refine zR ?_ ?_ | refine zW mixed ?_ ?_); exact kr) | ((with_reducible apply zK); exact rfl; exact tf) | ((with_reducible apply zCD); exact rfl) | ((with_reducible apply zCN); exact rfl) | ((with_reducible apply zC); exact rfl) | ((with_reducible refine zX ?_ ?_); exact rfl) | ((with_reducible refine zE (And.intro ?_ ?_)); exact kr) | (with_reducible refine zE ?_) | ((with_reducible apply zP); (first | exact dp | exact oc rfl (aw) | exact oc rfl (wf) | exact oc rfl (ws) | exact oc rfl (wl) | exact oc rfl (we) | exact oc rfl (wcp) | exact oc rfl (wpr) | exact oc rfl (wp) | exact oc rfl (wn) | exact oc rfl (hr1) | exact oc rfl (hq) | exact oc rfl (hfr) | exact oc rfl (hg1))) | ((with_reducible apply zN); exact dn) | ((with_reducible apply zA); exact da) | ((with_reducible apply zS); exact ds) | ((with_reducible apply zY); exact rfl; exact rfl; exact tf) | ((with_reducible apply zG); exact rfl; exact rfl; exact tf) | ((with_reducible apply zU); exact rfl; exact rfl) | ((with_reducible apply zD); exact rfl; exact rfl) | ((with_reducible apply zB); exact rfl; exact rfl)))
      all_goals first | (((with_reducible first | apply q_retR | apply q_retN); exact rl); rfl) | (((with_reducible first | apply q_retR | apply q_retN); exact rl); exact rt_bool (decide_eq_true rfl).symm)

end Go.Proofs.YtiabcffcbhlbiaaGreat
