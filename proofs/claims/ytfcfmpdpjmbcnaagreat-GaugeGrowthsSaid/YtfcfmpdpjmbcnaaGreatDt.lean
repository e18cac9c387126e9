/- The law of growths (chapter 5). -/
import Derived.Test.YtfcfmpdpjmbcnaaGreatDs
import Derived.Test.YtfcfmpdpjmbcnaaGreatSg
set_option linter.unusedVariables false
set_option linter.unusedSimpArgs false
namespace Go.Proofs.YtfcfmpdpjmbcnaaGreat
open Go.RowKit
set_option maxRecDepth 20000
set_option maxHeartbeats 8000000

theorem gfst0_dup {u : Int} {l l2 : List Int} (h : fst0 l = u) (hu : u ≠ 0) : fst0 (l ++ l2) = u := by
  induction l with
  | nil => exact absurd h.symm hu
  | cons a l ih =>
    by_cases ha : a = 0
    · subst ha
      exact ih h
    · rw [List.cons_append, fst0_ne ha]
      rw [fst0_ne ha] at h
      exact h
theorem gsrE_lo {c : List Rg} {den : Int} {x : List Int} {cs : List (List Int)} (h : loE c den ≠ 0) : srE c den x cs = loE c den := by
  have e : srH c den x cs = loE c den := fst0_ne h _
  unfold srE
  rw [e, beq0f h]; rfl
theorem gsrE_eq {c : List Rg} {den : Int} {x : List Int} {cs : List (List Int)} (h : loE c den = 0) : srE c den x cs = bif sxE c x == 0 then ckE c cs else sxE c x := by
  have e : srH c den x cs = fst0 ([unl (decide ((x.length : Int) = (c.length : Int))) 10, unl (!x.any fun n => !inR n (-100) 100) 2] ++ [unl (decide ((cs.length : Int) ≤ 8)) 8]) := by
    unfold srH
    rw [h]; rfl
  by_cases hx : sxE c x = 0
  · have hx' : fst0 [unl (decide ((x.length : Int) = (c.length : Int))) 10, unl (!x.any fun n => !inR n (-100) 100) 2] = 0 := hx
    obtain ⟨k1, k2⟩ := fst0_cons hx'
    rw [fst0_one] at k2
    have e2 : srH c den x cs = unl (decide ((cs.length : Int) ≤ 8)) 8 := by
      rw [e, k1, k2]
      exact (fst0_zero _).trans ((fst0_zero _).trans (fst0_one _))
    unfold srE
    rw [e2, hx]
    unfold ckE
    cases decide ((cs.length : Int) ≤ 8) <;> rfl
  · have e2 : srH c den x cs = sxE c x := by
      rw [e]
      exact gfst0_dup rfl hx
    unfold srE
    rw [e2, beq0f hx]; rfl
/-- What the growth's two sides answer behind a valid loop, start and coefficients. -/
theorem growth_both (c : List Rg) (den : Int) (x : List Int) (cs : List (List Int)) (h : srE c den x cs = 0) : ∃ (f : Fr) (e : Int), AC Tryz.prog 9 [loV c den, .agg (grC x cs)] (.tuple [F2 f, I e]) ∧ AC Tryz.prog 15 [loV c den, .agg (grC x cs)] (.tuple [F2 f, I e]) := by
  obtain ⟨g1, g2, g3, g4, g5⟩ := srE_ok h
  have hl := loE_ok g1
  have hcf : CfOk x.length cs := by rw [g2]; exact cf_ok hl g5
  have hl1 := hl.l1
  have hl3 := hl.l3
  have wq := qcheckGrowth_A c den x cs hl g2 g3 g4 hcf
  by_cases hg : grE c den x cs = 0
  · have hV := grE_ok hg
    rw [gqR_eq hV] at wq
    exact ⟨_, _, checkGrowth_ok c den x cs hg, wq⟩
  · have hlr : ∀ r ∈ cs, r.length ≤ 140737488355328 := fun r hr => by
      obtain ⟨t, ht, rfl⟩ := List.getElem_of_mem hr
      have := hcf.l t ht
      rw [List.getD_eq_getElem?_getD, List.getElem?_eq_getElem ht] at this
      have this : cs[t].length = x.length := this
      omega
    have wp := checkGrowth_err c den x cs (by omega) (by omega) (by omega) hlr hg
    have e : gqR den x cs = ((0, 0), grE c den x cs) := by
      unfold grE at hg ⊢
      unfold gqR
      rw [h] at hg ⊢
      by_cases h0 : cs.length = 0
      · rw [decide_eq_true h0, decide_eq_false (show ¬ (0 : Int) < (cs.length : Int) by omega)]; rfl
      · rw [decide_eq_true (show (0 : Int) < (cs.length : Int) by omega)] at hg ⊢
        rw [decide_eq_false h0]
        cases hz : x.any fun n => decide (n ≠ 0)
        · rfl
        · rw [hz] at hg
          exact absurd rfl hg
    rw [e] at wq
    exact ⟨_, _, wp, wq⟩
theorem gaugeGrowths_A (aw : AC Tryz.prog 5 [] (B true)) (c : List Rg) (den : Int) (x : List Int) (cs : List (List Int)) (hc : c.length ≤ 140737488355328) (hx : x.length ≤ 140737488355328) (hcs : cs.length ≤ 140737488355328) (hr : ∀ r ∈ cs, r.length ≤ 140737488355328) :
    AC Tryz.prog 3 [loV c den, .agg (grC x cs)] (B true) := by
  have wf := few_A c den
  have ws := short_A x
  have wt := fewTicks_A cs hcs
  by_cases g1 : (c.length : Int) ≤ 5
  rotate_left
  · rw [decide_eq_false g1] at wf
    refine ac_body Tryz.func3 rfl (by kernel_rfl) fun w0 ok => ?_; show AWp _ (ctx0 w0 ok _) _ (ARet _ _ _) (entry _)
    (repeat' (first | (with_reducible first | intro hg | refine mv (by constructor) ?_) | ((with_reducible first | refine zR ?_ ?_ | refine zW mixed ?_ ?_); exact kr) | ((with_reducible apply zK); exact rfl; exact tf) | ((with_reducible apply zCD); exact rfl) | ((with_reducible apply zCN); exact rfl) | ((with_reducible apply zC); exact rfl) | ((with_reducible refine zX ?_ ?_); exact rfl) | ((with_reducible refine zE (And.intro ?_ ?_)); exact kr) | (with_reducible refine zE ?_) | ((with_reducible apply zP); (first | exact dp | exact oc rfl (aw) | exact oc rfl (wf))) | ((with_reducible apply zN); exact dn) | ((with_reducible apply zA); exact da) | ((with_reducible apply zS); exact ds) | ((with_reducible apply zY); exact rfl; exact rfl; exact tf) | ((with_reducible apply zG); exact rfl; exact rfl; exact tf) | ((with_reducible apply zU); exact rfl; exact rfl) | ((with_reducible apply zD); exact rfl; exact rfl) | ((with_reducible apply zB); exact rfl; exact rfl)))
    ((with_reducible first | apply q_retR | apply q_retN); exact rl)
    rfl
  rw [decide_eq_true g1] at wf
  by_cases g2 : (x.length : Int) ≤ 5
  rotate_left
  · rw [decide_eq_false g2] at ws
    refine ac_body Tryz.func3 rfl (by kernel_rfl) fun w0 ok => ?_; show AWp _ (ctx0 w0 ok _) _ (ARet _ _ _) (entry _)
    (repeat' (first | (with_reducible first | intro hg | refine mv (by constructor) ?_) | ((with_reducible first | refine zR ?_ ?_ | refine zW mixed ?_ ?_); exact kr) | ((with_reducible apply zK); exact rfl; exact tf) | ((with_reducible apply zCD); exact rfl) | ((with_reducible apply zCN); exact rfl) | ((with_reducible apply zC); exact rfl) | ((with_reducible refine zX ?_ ?_); exact rfl) | ((with_reducible refine zE (And.intro ?_ ?_)); exact kr) | (with_reducible refine zE ?_) | ((with_reducible apply zP); (first | exact dp | exact oc rfl (aw) | exact oc rfl (wf) | exact oc rfl (ws))) | ((with_reducible apply zN); exact dn) | ((with_reducible apply zA); exact da) | ((with_reducible apply zS); exact ds) | ((with_reducible apply zY); exact rfl; exact rfl; exact tf) | ((with_reducible apply zG); exact rfl; exact rfl; exact tf) | ((with_reducible apply zU); exact rfl; exact rfl) | ((with_reducible apply zD); exact rfl; exact rfl) | ((with_reducible apply zB); exact rfl; exact rfl)))
    ((with_reducible first | apply q_retR | apply q_retN); exact rl)
    rfl
  rw [decide_eq_true g2] at ws
  cases g3 : decide (cs.length ≤ 10) && cs.all fun r => decide ((r.length : Int) ≤ 5)
  · rw [g3] at wt
    refine ac_body Tryz.func3 rfl (by kernel_rfl) fun w0 ok => ?_; show AWp _ (ctx0 w0 ok _) _ (ARet _ _ _) (entry _)
    (repeat' (first | (with_reducible first | intro hg | refine mv (by constructor) ?_) | ((with_reducible first | refine zR ?_ ?_ | refine zW mixed ?_ ?_); exact kr) | ((with_reducible apply zK); exact rfl; exact tf) | ((with_reducible apply zCD); exact rfl) | ((with_reducible apply zCN); exact rfl) | ((with_reducible apply zC); exact rfl) | ((with_reducible refine zX ?_ ?_); exact rfl) | ((with_reducible refine zE (And.intro ?_ ?_)); exact kr) | (with_reducible refine zE ?_) | ((with_reducible apply zP); (first | exact dp | exact oc rfl (aw) | exact oc rfl (wf) | exact oc rfl (ws) | exact oc rfl (wt))) | ((with_reducible apply zN); exact dn) | ((with_reducible apply zA); exact da) | ((with_reducible apply zS); exact ds) | ((with_reducible apply zY); exact rfl; exact rfl; exact tf) | ((with_reducible apply zG); exact rfl; exact rfl; exact tf) | ((with_reducible apply zU); exact rfl; exact rfl) | ((with_reducible apply zD); exact rfl; exact rfl) | ((with_reducible apply zB); exact rfl; exact rfl)))
    ((with_reducible first | apply q_retR | apply q_retN); exact rl)
    rfl
  rw [g3] at wt
  rw [Bool.and_eq_true, decide_eq_true_eq, List.all_eq_true] at g3
  obtain ⟨g3, g4⟩ := g3
  have g4 : ∀ r ∈ cs, r.length ≤ 1000000 := fun r hr => by have := of_decide_eq_true (g4 r hr); omega
  have wc := qcopy_A c den (by omega)
  have wg : AC Tryz.prog 11 [.agg (grC x cs)] (.agg (grC x cs)) := copyGrowth_A x cs (by omega) (by omega) g4
  have wl := qloopErr_A c den hc
  have wq1 := qstartErr_A c den x hc hx
  have wq2 := qcoefsErr_A c den cs hc hcs hr
  clear g4 hc hx hcs
  have key : ∀ u, srE c den x cs = u → u ≠ 0 → AC Tryz.prog 9 [loV c den, .agg (grC x cs)] (.tuple [F2 (0, 0), I u]) := fun u hu h0 => by
    have e : grE c den x cs = u := by unfold grE; rw [hu]; exact fst0_ne h0 _
    have := checkGrowth_err c den x cs (by omega) (by omega) (by omega) hr (by rw [e]; exact h0)
    rw [e] at this
    exact this
  by_cases hl : loE c den = 0
  rotate_left
  · have wn := key _ (gsrE_lo (x := x) (cs := cs) hl) hl
    clear wq1 wq2 hr key
    generalize loE c den = u at *
    refine ac_body Tryz.func3 rfl (by kernel_rfl) fun w0 ok => ?_; show AWp _ (ctx0 w0 ok _) _ (ARet _ _ _) (entry _)
    (repeat' (first | (with_reducible first | intro hg | refine mv (by constructor) ?_) | ((with_reducible first | refine zR ?_ ?_ | refine zW mixed ?_ ?_); exact kr) | ((with_reducible apply zK); exact rfl; exact tf) | ((with_reducible apply zCD); exact rfl) | ((with_reducible apply zCN); exact rfl) | ((with_reducible apply zC); exact rfl) | ((with_reducible refine zX ?_ ?_); exact rfl) | ((with_reducible refine zE (And.intro ?_ ?_)); exact kr) | (with_reducible refine zE ?_) | ((with_reducible apply zP); (first | exact dp | exact oc rfl (aw) | exact oc rfl (wf) | exact oc rfl (ws) | exact oc rfl (wt) | exact oc rfl (wc) | exact oc rfl (wg) | exact oc rfl (wl) | exact oc rfl (wn))) | ((with_reducible apply zN); exact dn) | ((with_reducible apply zA); exact da) | ((with_reducible apply zS); exact ds) | ((with_reducible apply zY); exact rfl; exact rfl; exact tf) | ((with_reducible apply zG); exact rfl; exact rfl; exact tf) | ((with_reducible apply zU); exact rfl; exact rfl) | ((with_reducible apply zD); exact rfl; exact rfl) | ((with_reducible apply zB); exact rfl; exact rfl)))
    ((with_reducible first | apply q_retR | apply q_retN); exact rl)
    rfl
  have hsr := gsrE_eq (x := x) (cs := cs) hl
  rw [hl] at wl
  by_cases h1 : sxE c x = 0
  rotate_left
  · rw [beq0f h1] at hsr
    have hsr : srE c den x cs = sxE c x := hsr
    have wn := key _ hsr h1
    clear wq2 hr key hsr hl
    generalize sxE c x = u at *
    refine ac_body Tryz.func3 rfl (by kernel_rfl) fun w0 ok => ?_; show AWp _ (ctx0 w0 ok _) _ (ARet _ _ _) (entry _)
    (repeat' (first | (with_reducible first | intro hg | refine mv (by constructor) ?_) | ((with_reducible first | refine zR ?_ ?_ | refine zW mixed ?_ ?_); exact kr) | ((with_reducible apply zK); exact rfl; exact tf) | ((with_reducible apply zCD); exact rfl) | ((with_reducible apply zCN); exact rfl) | ((with_reducible apply zC); exact rfl) | ((with_reducible refine zX ?_ ?_); exact rfl) | ((with_reducible refine zE (And.intro ?_ ?_)); exact kr) | (with_reducible refine zE ?_) | ((with_reducible apply zP); (first | exact dp | exact oc rfl (aw) | exact oc rfl (wf) | exact oc rfl (ws) | exact oc rfl (wt) | exact oc rfl (wc) | exact oc rfl (wg) | exact oc rfl (wl) | exact oc rfl (wq1) | exact oc rfl (wn))) | ((with_reducible apply zN); exact dn) | ((with_reducible apply zA); exact da) | ((with_reducible apply zS); exact ds) | ((with_reducible apply zY); exact rfl; exact rfl; exact tf) | ((with_reducible apply zG); exact rfl; exact rfl; exact tf) | ((with_reducible apply zU); exact rfl; exact rfl) | ((with_reducible apply zD); exact rfl; exact rfl) | ((with_reducible apply zB); exact rfl; exact rfl)))
    ((with_reducible first | apply q_retR | apply q_retN); exact rl)
    rfl
  rw [h1] at hsr wq1
  have hsr : srE c den x cs = ckE c cs := hsr
  by_cases h2 : ckE c cs = 0
  rotate_left
  · have wn := key _ hsr h2
    clear hr key hsr hl h1
    generalize ckE c cs = u at *
    refine ac_body Tryz.func3 rfl (by kernel_rfl) fun w0 ok => ?_; show AWp _ (ctx0 w0 ok _) _ (ARet _ _ _) (entry _)
    (repeat' (first | (with_reducible first | intro hg | refine mv (by constructor) ?_) | ((with_reducible first | refine zR ?_ ?_ | refine zW mixed ?_ ?_); exact kr) | ((with_reducible apply zK); exact rfl; exact tf) | ((with_reducible apply zCD); exact rfl) | ((with_reducible apply zCN); exact rfl) | ((with_reducible apply zC); exact rfl) | ((with_reducible refine zX ?_ ?_); exact rfl) | ((with_reducible refine zE (And.intro ?_ ?_)); exact kr) | (with_reducible refine zE ?_) | ((with_reducible apply zP); (first | exact dp | exact oc rfl (aw) | exact oc rfl (wf) | exact oc rfl (ws) | exact oc rfl (wt) | exact oc rfl (wc) | exact oc rfl (wg) | exact oc rfl (wl) | exact oc rfl (wq1) | exact oc rfl (wq2) | exact oc rfl (wn))) | ((with_reducible apply zN); exact dn) | ((with_reducible apply zA); exact da) | ((with_reducible apply zS); exact ds) | ((with_reducible apply zY); exact rfl; exact rfl; exact tf) | ((with_reducible apply zG); exact rfl; exact rfl; exact tf) | ((with_reducible apply zU); exact rfl; exact rfl) | ((with_reducible apply zD); exact rfl; exact rfl) | ((with_reducible apply zB); exact rfl; exact rfl)))
    ((with_reducible first | apply q_retR | apply q_retN); exact rl)
    rfl
  rw [h2] at hsr wq2
  obtain ⟨f, e, wn, wr2⟩ := growth_both c den x cs hsr
  clear hr key hsr hl h1 h2
  refine ac_body Tryz.func3 rfl (by kernel_rfl) fun w0 ok => ?_; show AWp _ (ctx0 w0 ok _) _ (ARet _ _ _) (entry _)
  (repeat' (first | (with_reducible first | intro hg | refine mv (by constructor) ?_) | ((with_reducible first | refine zR ?_ ?_ | refine zW mixed ?_ ?_); exact kr) | ((with_reducible apply zK); exact rfl; exact tf) | ((with_reducible apply zCD); exact rfl) | ((with_reducible apply zCN); exact rfl) | ((with_reducible apply zC); exact rfl) | ((with_reducible refine zX ?_ ?_); exact rfl) | ((with_reducible refine zE (And.intro ?_ ?_)); exact kr) | (with_reducible refine zE ?_) | ((with_reducible apply zP); (first | exact dp | exact oc rfl (aw) | exact oc rfl (wf) | exact oc rfl (ws) | exact oc rfl (wt) | exact oc rfl (wc) | exact oc rfl (wg) | exact oc rfl (wl) | exact oc rfl (wq1) | exact oc rfl (wq2) | exact oc rfl (wn) | exact oc rfl (wr2))) | ((with_reducible apply zN); exact dn) | ((with_reducible apply zA); exact da) | ((with_reducible apply zS); exact ds) | ((with_reducible apply zY); exact rfl; exact rfl; exact tf) | ((with_reducible apply zG); exact rfl; exact rfl; exact tf) | ((with_reducible apply zU); exact rfl; exact rfl) | ((with_reducible apply zD); exact rfl; exact rfl) | ((with_reducible apply zB); exact rfl; exact rfl)))
  ((with_reducible first | apply q_retR | apply q_retN); exact rl)
  exact rt_bool (decide_eq_true rfl).symm

end Go.Proofs.YtfcfmpdpjmbcnaaGreat
