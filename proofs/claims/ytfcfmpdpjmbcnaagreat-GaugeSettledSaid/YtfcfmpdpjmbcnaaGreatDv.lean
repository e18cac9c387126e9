/- The law of settling (chapter 5). -/
import Derived.Test.YtfcfmpdpjmbcnaaGreatDt
import Derived.Test.YtfcfmpdpjmbcnaaGreatEs
import Derived.Test.YtfcfmpdpjmbcnaaGreatSm
import Derived.Test.YtfcfmpdpjmbcnaaGreatSx
set_option linter.unusedVariables false
set_option linter.unusedSimpArgs false
namespace Go.Proofs.YtfcfmpdpjmbcnaaGreat
open Go.RowKit
set_option maxRecDepth 20000
set_option maxHeartbeats 8000000

theorem raS_head (A B : List Rat) {n : Nat} (h : A.length = n) : (raS (A ++ B)).take (n * 4) = raS A := by
  have e : raS (A ++ B) = raS A ++ raS B := by simp [raS]
  subst h
  rw [e, ← raS_len, List.take_left]
theorem prf_nthb {n s : Nat} {w : List Int} (h : PrfOk n s w) {j : Nat} (hj : j < n) : 1 ≤ nth w j ∧ nth w j ≤ 10 := by
  have hl := h.l
  have hm : nth w j ∈ w := by
    unfold nth
    rw [List.getD_eq_getElem?_getD, List.getElem?_eq_getElem (by omega)]
    exact List.getElem_mem (by omega)
  exact h.w _ hm
/-- Behind a settling proof a growth of so many ticks is refused. -/
theorem growth_refused (c : List Rg) (den : Int) (x : List Int) (cs : List (List Int)) (w : List Int) (h : srE c den x cs = 0) (hp : PrfOk c.length cs.length w) (hN : nrm c den cs.length w < 1) :
    ∃ f : Fr, ∃ e : Int, (e = 19 ∨ e = 11) ∧ AC Tryz.prog 9 [loV c den, .agg (grC x cs)] (.tuple [F2 f, I e]) := by
  obtain ⟨g1, g2, g3, g4, g5⟩ := srE_ok h
  have hl := loE_ok g1
  have hcf : CfOk x.length cs := by rw [g2]; exact cf_ok hl g5
  have hl1 := hl.l1
  have hl3 := hl.l3
  have hs1 := hp.s1
  cases hz : x.any fun n => decide (n ≠ 0)
  · have e : grE c den x cs = 11 := by
      unfold grE
      rw [h, hz, decide_eq_true (show (0 : Int) < (cs.length : Int) by omega)]; rfl
    have hlr : ∀ r ∈ cs, r.length ≤ 140737488355328 := fun r hr => by
      obtain ⟨t, ht, rfl⟩ := List.getElem_of_mem hr
      have := hcf.l t ht
      rw [List.getD_eq_getElem?_getD, List.getElem?_eq_getElem ht] at this
      have this : cs[t].length = x.length := this
      omega
    have wp := checkGrowth_err c den x cs (by omega) (by omega) (by omega) hlr (by rw [e]; decide)
    rw [e] at wp
    exact ⟨_, _, .inr rfl, wp⟩
  · have hg : grE c den x cs = 0 := by
      unfold grE
      rw [h, hz, decide_eq_true (show (0 : Int) < (cs.length : Int) by omega)]; rfl
    have hV := grE_ok hg
    obtain ⟨_, n2, n3⟩ := nz_ok hz
    have hle := settle_le (c := c) (dz := zrL cs.length) (x := x) hl.d.1 (w := w) (fun i hi => (prf_nthb hp hi).1) g5 (nth_zrL cs.length)
    rw [← g2] at hle
    have hN' : nrmR (powM c den x.length cs.length) w (den ^ cs.length) x.length x.length < 1 := by rw [g2]; exact hN
    have hno := settle_no (p := hst den cs (zrL cs.length) x 0) (fun i hi => (prf_nthb hp (by omega)).1) hN' (nrmR_nonneg _) (fun i hi => by
      show (x.map fun (a : Int) => (a : Rat)).getD i 0 = _
      unfold nth
      rw [List.getD_eq_getElem?_getD, List.getD_eq_getElem?_getD, List.getElem?_map, List.getElem?_eq_getElem hi]; rfl) hle n2 n3
    have e : gwF den x cs = ((0, 0), 19) := by
      rw [← gqR_eq hV]
      unfold gqR
      rw [decide_eq_false (show ¬ cs.length = 0 by omega), hz, hno]; rfl
    have wp := checkGrowth_ok c den x cs hg
    rw [e] at wp
    exact ⟨_, _, .inl rfl, wp⟩
theorem gaugeSettled_A (aw : AC Tryz.prog 5 [] (B true)) (c : List Rg) (den s : Int) (w x : List Int) (cs : List (List Int)) (hc : c.length ≤ 140737488355328) (hw : w.length ≤ 140737488355328) (hx : x.length ≤ 140737488355328) (hcs : cs.length ≤ 140737488355328) (hr : ∀ r ∈ cs, r.length ≤ 140737488355328) :
    AC Tryz.prog 4 [loV c den, .agg (prI s w), .agg (grC x cs)] (B true) := by
  have wf := few_A c den
  by_cases g1 : (c.length : Int) ≤ 5
  rotate_left
  · rw [decide_eq_false g1] at wf
    refine ac_body Tryz.func4 rfl (by kernel_rfl) fun w0 ok => ?_; show AWp _ (ctx0 w0 ok _) _ (ARet _ _ _) (entry _)
    (repeat' (first | (with_reducible first | intro hg | refine mv (by constructor) ?_) | ((with_reducible first | refine zR ?_ ?_ | refine zW mixed ?_ ?_); exact kr) | ((with_reducible apply zK); exact rfl; exact tf) | ((with_reducible apply zCD); exact rfl) | ((with_reducible apply zCN); exact rfl) | ((with_reducible apply zC); exact rfl) | ((with_reducible refine zX ?_ ?_); exact rfl) | ((with_reducible refine zE (And.intro ?_ ?_)); exact kr) | (with_reducible refine zE ?_) | ((with_reducible apply zP); (first | exact dp | exact oc rfl (aw) | exact oc rfl (wf))) | ((with_reducible apply zN); exact dn) | ((with_reducible apply zA); exact da) | ((with_reducible apply zS); exact ds) | ((with_reducible apply zY); exact rfl; exact rfl; exact tf) | ((with_reducible apply zG); exact rfl; exact rfl; exact tf) | ((with_reducible apply zU); exact rfl; exact rfl) | ((with_reducible apply zD); exact rfl; exact rfl) | ((with_reducible apply zB); exact rfl; exact rfl)))
    ((with_reducible first | apply q_retR | apply q_retN); exact rl)
    rfl
  rw [decide_eq_true g1] at wf
  have wl := qloopErr_A c den hc
  by_cases hl : loE c den = 0
  rotate_left
  · generalize loE c den = u at *
    refine ac_body Tryz.func4 rfl (by kernel_rfl) fun w0 ok => ?_; show AWp _ (ctx0 w0 ok _) _ (ARet _ _ _) (entry _)
    (repeat' (first | (with_reducible first | intro hg | refine mv (by constructor) ?_) | ((with_reducible first | refine zR ?_ ?_ | refine zW mixed ?_ ?_); exact kr) | ((with_reducible apply zK); exact rfl; exact tf) | ((with_reducible apply zCD); exact rfl) | ((with_reducible apply zCN); exact rfl) | ((with_reducible apply zC); exact rfl) | ((with_reducible refine zX ?_ ?_); exact rfl) | ((with_reducible refine zE (And.intro ?_ ?_)); exact kr) | (with_reducible refine zE ?_) | ((with_reducible apply zP); (first | exact dp | exact oc rfl (aw) | exact oc rfl (wf) | exact oc rfl (wl))) | ((with_reducible apply zN); exact dn) | ((with_reducible apply zA); exact da) | ((with_reducible apply zS); exact ds) | ((with_reducible apply zY); exact rfl; exact rfl; exact tf) | ((with_reducible apply zG); exact rfl; exact rfl; exact tf) | ((with_reducible apply zU); exact rfl; exact rfl) | ((with_reducible apply zD); exact rfl; exact rfl) | ((with_reducible apply zB); exact rfl; exact rfl)))
    ((with_reducible first | apply q_retR | apply q_retN); exact rl)
    rfl
  rw [hl] at wl
  have wpf := qproofErr_A c den s w hc hw
  by_cases hpf : pfE c s w = 0
  rotate_left
  · clear hl
    generalize pfE c s w = u at *
    refine ac_body Tryz.func4 rfl (by kernel_rfl) fun w0 ok => ?_; show AWp _ (ctx0 w0 ok _) _ (ARet _ _ _) (entry _)
    (repeat' (first | (with_reducible first | intro hg | refine mv (by constructor) ?_) | ((with_reducible first | refine zR ?_ ?_ | refine zW mixed ?_ ?_); exact kr) | ((with_reducible apply zK); exact rfl; exact tf) | ((with_reducible apply zCD); exact rfl) | ((with_reducible apply zCN); exact rfl) | ((with_reducible apply zC); exact rfl) | ((with_reducible refine zX ?_ ?_); exact rfl) | ((with_reducible refine zE (And.intro ?_ ?_)); exact kr) | (with_reducible refine zE ?_) | ((with_reducible apply zP); (first | exact dp | exact oc rfl (aw) | exact oc rfl (wf) | exact oc rfl (wl) | exact oc rfl (wpf))) | ((with_reducible apply zN); exact dn) | ((with_reducible apply zA); exact da) | ((with_reducible apply zS); exact ds) | ((with_reducible apply zY); exact rfl; exact rfl; exact tf) | ((with_reducible apply zG); exact rfl; exact rfl; exact tf) | ((with_reducible apply zU); exact rfl; exact rfl) | ((with_reducible apply zD); exact rfl; exact rfl) | ((with_reducible apply zB); exact rfl; exact rfl)))
    ((with_reducible first | apply q_retR | apply q_retN); exact rl)
    rfl
  rw [hpf] at wpf
  have wq1 := qstartErr_A c den x hc hx
  by_cases h1 : sxE c x = 0
  rotate_left
  · clear hl hpf
    generalize sxE c x = u at *
    refine ac_body Tryz.func4 rfl (by kernel_rfl) fun w0 ok => ?_; show AWp _ (ctx0 w0 ok _) _ (ARet _ _ _) (entry _)
    (repeat' (first | (with_reducible first | intro hg | refine mv (by constructor) ?_) | ((with_reducible first | refine zR ?_ ?_ | refine zW mixed ?_ ?_); exact kr) | ((with_reducible apply zK); exact rfl; exact tf) | ((with_reducible apply zCD); exact rfl) | ((with_reducible apply zCN); exact rfl) | ((with_reducible apply zC); exact rfl) | ((with_reducible refine zX ?_ ?_); exact rfl) | ((with_reducible refine zE (And.intro ?_ ?_)); exact kr) | (with_reducible refine zE ?_) | ((with_reducible apply zP); (first | exact dp | exact oc rfl (aw) | exact oc rfl (wf) | exact oc rfl (wl) | exact oc rfl (wpf) | exact oc rfl (wq1))) | ((with_reducible apply zN); exact dn) | ((with_reducible apply zA); exact da) | ((with_reducible apply zS); exact ds) | ((with_reducible apply zY); exact rfl; exact rfl; exact tf) | ((with_reducible apply zG); exact rfl; exact rfl; exact tf) | ((with_reducible apply zU); exact rfl; exact rfl) | ((with_reducible apply zD); exact rfl; exact rfl) | ((with_reducible apply zB); exact rfl; exact rfl)))
    ((with_reducible first | apply q_retR | apply q_retN); exact rl)
    rfl
  rw [h1] at wq1
  have wt := fewTicks_A cs hcs
  cases g3 : decide (cs.length ≤ 10) && cs.all fun r => decide ((r.length : Int) ≤ 5)
  · rw [g3] at wt
    clear hl hpf h1
    refine ac_body Tryz.func4 rfl (by kernel_rfl) fun w0 ok => ?_; show AWp _ (ctx0 w0 ok _) _ (ARet _ _ _) (entry _)
    (repeat' (first | (with_reducible first | intro hg | refine mv (by constructor) ?_) | ((with_reducible first | refine zR ?_ ?_ | refine zW mixed ?_ ?_); exact kr) | ((with_reducible apply zK); exact rfl; exact tf) | ((with_reducible apply zCD); exact rfl) | ((with_reducible apply zCN); exact rfl) | ((with_reducible apply zC); exact rfl) | ((with_reducible refine zX ?_ ?_); exact rfl) | ((with_reducible refine zE (And.intro ?_ ?_)); exact kr) | (with_reducible refine zE ?_) | ((with_reducible apply zP); (first | exact dp | exact oc rfl (aw) | exact oc rfl (wf) | exact oc rfl (wl) | exact oc rfl (wpf) | exact oc rfl (wq1) | exact oc rfl (wt))) | ((with_reducible apply zN); exact dn) | ((with_reducible apply zA); exact da) | ((with_reducible apply zS); exact ds) | ((with_reducible apply zY); exact rfl; exact rfl; exact tf) | ((with_reducible apply zG); exact rfl; exact rfl; exact tf) | ((with_reducible apply zU); exact rfl; exact rfl) | ((with_reducible apply zD); exact rfl; exact rfl) | ((with_reducible apply zB); exact rfl; exact rfl)))
    ((with_reducible first | apply q_retR | apply q_retN); exact rl)
    rfl
  rw [g3] at wt
  rw [Bool.and_eq_true, decide_eq_true_eq, List.all_eq_true] at g3
  obtain ⟨g3, g4⟩ := g3
  have g4 : ∀ r ∈ cs, r.length ≤ 1000000 := fun r hr => by have := of_decide_eq_true (g4 r hr); omega
  have wq2 := qcoefsErr_A c den cs hc hcs hr
  by_cases h2 : ckE c cs = 0
  rotate_left
  · clear hl hpf h1 g4
    generalize ckE c cs = u at *
    refine ac_body Tryz.func4 rfl (by kernel_rfl) fun w0 ok => ?_; show AWp _ (ctx0 w0 ok _) _ (ARet _ _ _) (entry _)
    (repeat' (first | (with_reducible first | intro hg | refine mv (by constructor) ?_) | ((with_reducible first | refine zR ?_ ?_ | refine zW mixed ?_ ?_); exact kr) | ((with_reducible apply zK); exact rfl; exact tf) | ((with_reducible apply zCD); exact rfl) | ((with_reducible apply zCN); exact rfl) | ((with_reducible apply zC); exact rfl) | ((with_reducible refine zX ?_ ?_); exact rfl) | ((with_reducible refine zE (And.intro ?_ ?_)); exact kr) | (with_reducible refine zE ?_) | ((with_reducible apply zP); (first | exact dp | exact oc rfl (aw) | exact oc rfl (wf) | exact oc rfl (wl) | exact oc rfl (wpf) | exact oc rfl (wq1) | exact oc rfl (wt) | exact oc rfl (wq2))) | ((with_reducible apply zN); exact dn) | ((with_reducible apply zA); exact da) | ((with_reducible apply zS); exact ds) | ((with_reducible apply zY); exact rfl; exact rfl; exact tf) | ((with_reducible apply zG); exact rfl; exact rfl; exact tf) | ((with_reducible apply zU); exact rfl; exact rfl) | ((with_reducible apply zD); exact rfl; exact rfl) | ((with_reducible apply zB); exact rfl; exact rfl)))
    ((with_reducible first | apply q_retR | apply q_retN); exact rl)
    rfl
  rw [h2] at wq2
  obtain ⟨k, rfl, hp⟩ := pfE_ok hpf
  by_cases hck : cs.length = k
  rotate_left
  · have hck : ¬ (cs.length : Int) = (k : Int) := by omega
    clear hl hpf h1 g4 h2 hp
    refine ac_body Tryz.func4 rfl (by kernel_rfl) fun w0 ok => ?_; show AWp _ (ctx0 w0 ok _) _ (ARet _ _ _) (entry _)
    (repeat' (first | (with_reducible first | intro hg | refine mv (by constructor) ?_) | ((with_reducible first | refine zR ?_ ?_ | refine zW mixed ?_ ?_); exact kr) | ((with_reducible apply zK); exact rfl; exact tf) | ((with_reducible apply zCD); exact rfl) | ((with_reducible apply zCN); exact rfl) | ((with_reducible apply zC); exact rfl) | ((with_reducible refine zX ?_ ?_); exact rfl) | ((with_reducible refine zE (And.intro ?_ ?_)); exact kr) | (with_reducible refine zE ?_) | ((with_reducible apply zP); (first | exact dp | exact oc rfl (aw) | exact oc rfl (wf) | exact oc rfl (wl) | exact oc rfl (wpf) | exact oc rfl (wq1) | exact oc rfl (wt) | exact oc rfl (wq2))) | ((with_reducible apply zN); exact dn) | ((with_reducible apply zA); exact da) | ((with_reducible apply zS); exact ds) | ((with_reducible apply zY); exact rfl; exact rfl; exact tf) | ((with_reducible apply zG); exact rfl; exact rfl; exact tf) | ((with_reducible apply zU); exact rfl; exact rfl) | ((with_reducible apply zD); exact rfl; exact rfl) | ((with_reducible apply zB); exact rfl; exact rfl)))
    ((with_reducible first | apply q_retR | apply q_retN); exact rl)
    rfl
  subst hck
  have hsr : srE c den x cs = 0 := by
    rw [gsrE_eq hl, h1]
    exact h2
  obtain ⟨_, j2, j3, j4, j5⟩ := srE_ok hsr
  have hL := loE_ok hl
  have hl1 := hL.l1
  have hl3 := hL.l3
  have hwl := hp.l
  have wc := qcopy_A c den (by omega)
  have wp := copyProof_A (cs.length : Int) w (by omega)
  have wg : AC Tryz.prog 11 [.agg (grC x cs)] (.agg (grC x cs)) := copyGrowth_A x cs (by omega) (by omega) g4
  have wse := checkSettling_q c den hl cs.length w hp
  by_cases hN : nrm c den cs.length w < 1
  rotate_left
  · have e : ckS (nrm c den cs.length w) = ((0, 0), 19) := by unfold ckS; rw [decide_eq_false hN]; rfl
    rw [e] at wse
    clear hl hpf h1 g4 h2 hp e hN
    refine ac_body Tryz.func4 rfl (by kernel_rfl) fun w0 ok => ?_; show AWp _ (ctx0 w0 ok _) _ (ARet _ _ _) (entry _)
    (repeat' (first | (with_reducible first | intro hg | refine mv (by constructor) ?_) | ((with_reducible first | refine zR ?_ ?_ | refine zW mixed ?_ ?_); exact kr) | ((with_reducible apply zK); exact rfl; exact tf) | ((with_reducible apply zCD); exact rfl) | ((with_reducible apply zCN); exact rfl) | ((with_reducible apply zC); exact rfl) | ((with_reducible refine zX ?_ ?_); exact rfl) | ((with_reducible refine zE (And.intro ?_ ?_)); exact kr) | (with_reducible refine zE ?_) | ((with_reducible apply zP); (first | exact dp | exact oc rfl (aw) | exact oc rfl (wf) | exact oc rfl (wl) | exact oc rfl (wpf) | exact oc rfl (wq1) | exact oc rfl (wt) | exact oc rfl (wq2) | exact oc rfl (wc) | exact oc rfl (wp) | exact oc rfl (wse))) | ((with_reducible apply zN); exact dn) | ((with_reducible apply zA); exact da) | ((with_reducible apply zS); exact ds) | ((with_reducible apply zY); exact rfl; exact rfl; exact tf) | ((with_reducible apply zG); exact rfl; exact rfl; exact tf) | ((with_reducible apply zU); exact rfl; exact rfl) | ((with_reducible apply zD); exact rfl; exact rfl) | ((with_reducible apply zB); exact rfl; exact rfl)))
    ((with_reducible first | apply q_retR | apply q_retN); exact rl)
    rfl
  have e : ckS (nrm c den cs.length w) = frQ (nrm c den cs.length w) := by unfold ckS; rw [decide_eq_true hN]; rfl
  rw [e] at wse
  clear e
  cases hsm : smQ (nrm c den cs.length w)
  · have e : frQ (nrm c den cs.length w) = ((0, 0), 8) := by unfold frQ; rw [hsm]; rfl
    rw [e] at wse
    clear hl hpf h1 g4 h2 hp e hN
    refine ac_body Tryz.func4 rfl (by kernel_rfl) fun w0 ok => ?_; show AWp _ (ctx0 w0 ok _) _ (ARet _ _ _) (entry _)
    (repeat' (first | (with_reducible first | intro hg | refine mv (by constructor) ?_) | ((with_reducible first | refine zR ?_ ?_ | refine zW mixed ?_ ?_); exact kr) | ((with_reducible apply zK); exact rfl; exact tf) | ((with_reducible apply zCD); exact rfl) | ((with_reducible apply zCN); exact rfl) | ((with_reducible apply zC); exact rfl) | ((with_reducible refine zX ?_ ?_); exact rfl) | ((with_reducible refine zE (And.intro ?_ ?_)); exact kr) | (with_reducible refine zE ?_) | ((with_reducible apply zP); (first | exact dp | exact oc rfl (aw) | exact oc rfl (wf) | exact oc rfl (wl) | exact oc rfl (wpf) | exact oc rfl (wq1) | exact oc rfl (wt) | exact oc rfl (wq2) | exact oc rfl (wc) | exact oc rfl (wp) | exact oc rfl (wse))) | ((with_reducible apply zN); exact dn) | ((with_reducible apply zA); exact da) | ((with_reducible apply zS); exact ds) | ((with_reducible apply zY); exact rfl; exact rfl; exact tf) | ((with_reducible apply zG); exact rfl; exact rfl; exact tf) | ((with_reducible apply zU); exact rfl; exact rfl) | ((with_reducible apply zD); exact rfl; exact rfl) | ((with_reducible apply zB); exact rfl; exact rfl)))
    ((with_reducible first | apply q_retR | apply q_retN); exact rl)
    rfl
  have e : frQ (nrm c den cs.length w) = (qF (nrm c den cs.length w), 0) := by unfold frQ; rw [hsm]; rfl
  rw [e] at wse
  clear e
  obtain ⟨f, e, he, wgr⟩ := growth_refused c den x cs w hsr hp hN
  have hcf : CfOk x.length cs := by rw [j2]; exact cf_ok hL j5
  have hle := settle_le (c := c) (dz := zrL cs.length) (x := x) hL.d.1 (w := w) (fun i hi => (prf_nthb hp hi).1) j5 (nth_zrL cs.length)
  have hN0 : 0 ≤ nrm c den cs.length w := nrmR_nonneg _
  have hS := states_A c den x cs (zrL cs.length) ⟨hL.d, by omega, by omega, j3, by omega, hcf, by rw [show (zrL cs.length).length = cs.length from lst_length _ _]; exact Nat.le_refl _, by rw [show (zrL cs.length).length = cs.length from lst_length _ _]; omega, fun t => by rw [nth_zrL]; decide⟩
  have z1 : isl (zrL cs.length) = DV.slice cs.length (ivs (zrL cs.length)) := by
    show DV.slice (zrL cs.length).length _ = _
    rw [lst_length]
  rw [z1] at hS
  have hst1 := fun i => (hst_ov (dz := zrL cs.length) hL.d j3 (fun t => by rw [nth_zrL]; decide) (by omega) hcf cs.length (Nat.le_refl _) i).ratS (by have := pow_rng hL.d (t := cs.length) (by omega); omega) (by have := pow_rng hL.d (t := cs.length) (by omega); omega) (by have := bB8 (t := cs.length) (by omega); omega)
  have hst0 := fun i => (hst_ov (dz := zrL cs.length) hL.d j3 (fun t => by rw [nth_zrL]; decide) (by omega) hcf 0 (Nat.zero_le _) i).ratS (by have := pow_rng hL.d (t := 0) (by omega); omega) (by have := pow_rng hL.d (t := 0) (by omega); omega) (by have := bB8 (t := 0) (by omega); omega)
  have ol0 := outL_len den cs (zrL cs.length) x 0
  have ol1 := outL_len den cs (zrL cs.length) x cs.length
  have hwb := fun i (hi : i < w.length) => prf_nthb hp (j := i) (by omega)
  have wb := weighted_A (outL den cs (zrL cs.length) x 0) w (hst den cs (zrL cs.length) x 0) x.length ol0 (by omega) (by omega) (fun i hi => outL_back den cs (zrL cs.length) x (t := 0) (i := i) (by omega)) hst0 hwb
  have wa := weighted_A (outL den cs (zrL cs.length) x cs.length) w (hst den cs (zrL cs.length) x cs.length) (x.length + cs.length) ol1 (by omega) (by omega) (fun i hi => outL_back den cs (zrL cs.length) x (t := cs.length) (i := i) (by omega)) hst1 hwb
  have hO : (raS (outL den cs (zrL cs.length) x cs.length)).take (x.length * 4) = raS (outL den cs (zrL cs.length) x 0) := by
    have e0 : outL den cs (zrL cs.length) x 0 = (x.map fun (a : Int) => (a : Rat)).reverse := by
      unfold outL
      rw [List.range_zero, List.map_nil, List.append_nil]
    rw [e0]
    exact raS_head _ _ (by rw [List.length_reverse, List.length_map])
  rw [← hO] at wb
  have hd6 := fun (q : List Rat) (hq : ∀ i, RatS 3 (q.getD i 0)) => (gwtR_S (w := w) (st := q) (i := w.length) fun j hj => (absR_S (hq j)).div (int_ratS (by have := hwb j hj; omega)) (castNe (by have := hwb j hj; omega)))
  have sA := hd6 _ hst1
  have sB := hd6 _ hst0
  have sN := nrm_ratS hL hp
  have wfr := from_q (nrm c den cs.length w) hsm
  have wsm := gsmall_q (nrm c den cs.length w) hsm
  have hn1 : 0 ≤ (nrm c den cs.length w).num := Rat.num_nonneg.2 hN0
  have hn2 : (nrm c den cs.length w).num < ((nrm c den cs.length w).den : Int) := by
    have h := (Rat.lt_iff _ _).1 hN
    rw [show (1 : Rat).num = 1 from rfl, show (1 : Rat).den = 1 from rfl] at h
    omega
  have hle' : wtR w (hst den cs (zrL cs.length) x cs.length) w.length ≤ nrm c den cs.length w * wtR w (hst den cs (zrL cs.length) x 0) w.length := by rw [hwl]; exact hle
  have wm := ratioMul_A (sN.mono (show 3 ≤ 10000 by decide)) (sB.mono (show 6 ≤ 10000 by decide))
  have wcm := ratioCmp_A (sA.mono (show 6 ≤ 10000 by decide)) ((sN.mul sB).mono (show 3 + 6 ≤ 10000 by decide))
  have hcz : ¬ 0 < cmpR (wtR w (hst den cs (zrL cs.length) x cs.length) w.length) (nrm c den cs.length w * wtR w (hst den cs (zrL cs.length) x 0) w.length) := fun h => Rat.not_lt.2 hle' (cmpR_pos.1 h)
  have hcb := cmpR_bnd (wtR w (hst den cs (zrL cs.length) x cs.length) w.length) (nrm c den cs.length w * wtR w (hst den cs (zrL cs.length) x 0) w.length)
  clear hle hle' hl hpf h1 g4 h2 hp hN hN0 hsr hcf z1 hst1 hst0 hd6 sA sB sN hO j3 j5 hc hw hx hcs hr ol0 ol1 hwb hsm
  generalize cmpR (wtR w (hst den cs (zrL cs.length) x cs.length) w.length) (nrm c den cs.length w * wtR w (hst den cs (zrL cs.length) x 0) w.length) = cr at *
  generalize wtR w (hst den cs (zrL cs.length) x cs.length) w.length = A at *
  generalize wtR w (hst den cs (zrL cs.length) x 0) w.length = B0 at *
  generalize nrm c den cs.length w = N at *
  generalize outL den cs (zrL cs.length) x cs.length = O at *
  have wse : AC Tryz.prog 17 [loV c den, .agg (prI (cs.length : Int) w)] (.tuple [.agg [I N.num, I (N.den : Int)], I 0]) := wse
  have wsm : AC Tryz.prog 19 [.agg [I N.num, I (N.den : Int)]] (B true) := wsm
  have wfr : AC Tryz.prog 24 [.agg [I N.num, I (N.den : Int)]] (ratV N) := wfr
  rcases he with rfl | rfl
  all_goals
    refine ac_body Tryz.func4 rfl (by kernel_rfl) fun w0 ok => ?_; show AWp _ (ctx0 w0 ok _) _ (ARet _ _ _) (entry _)
    (repeat' (first | (with_reducible first | intro hg | refine mv (by constructor) ?_) | ((with_reducible first | refine zR ?_ ?_ | refine zW mixed ?_ ?_); exact kr) | ((with_reducible apply zK); exact rfl; exact tf) | ((with_reducible apply zCD); exact rfl) | ((with_reducible apply zCN); exact rfl) | ((with_reducible apply zC); exact rfl) | ((with_reducible refine zX ?_ ?_); exact rfl) | ((with_reducible refine zE (And.intro ?_ ?_)); exact kr) | (with_reducible refine zE ?_) | ((with_reducible apply zP); (first | exact o_makeSlD (n := cs.length) rfl (by omega) (by omega) (zrL_int _) | exact o_sliceH (h := x.length) rfl rfl (by omega) | exact dp | exact oc rfl (aw) | exact oc rfl (wf) | exact oc rfl (wl) | exact oc rfl (wpf) | exact oc rfl (wq1) | exact oc rfl (wt) | exact oc rfl (wq2) | exact oc rfl (wc) | exact oc rfl (wp) | exact oc rfl (wse) | exact oc rfl (wsm) | exact oc rfl (hS) | exact oc rfl (wb) | exact oc rfl (wa) | exact oc rfl (wfr) | exact oc rfl (wm) | exact oc rfl (wcm) | exact oc rfl (wg) | exact oc rfl (wgr))) | ((with_reducible apply zN); exact dn) | ((with_reducible apply zA); exact da) | ((with_reducible apply zS); exact ds) | ((with_reducible apply zY); exact rfl; exact rfl; exact tf) | ((with_reducible apply zG); exact rfl; exact rfl; exact tf) | ((with_reducible apply zU); exact rfl; exact rfl) | ((with_reducible apply zD); exact rfl; exact rfl) | ((with_reducible apply zB); exact rfl; exact rfl)))
    ((with_reducible first | apply q_retR | apply q_retN); exact rl)
    rfl

end Go.Proofs.YtfcfmpdpjmbcnaaGreat
