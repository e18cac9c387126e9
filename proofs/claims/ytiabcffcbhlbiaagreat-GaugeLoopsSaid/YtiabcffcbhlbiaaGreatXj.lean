/- The law of loops. -/
import Derived.Test.YtiabcffcbhlbiaaGreatSj
import Derived.Test.YtiabcffcbhlbiaaGreatSk
set_option linter.unusedVariables false
set_option linter.unusedSimpArgs false
namespace Go.Proofs.YtiabcffcbhlbiaaGreat
open Go.RowKit
set_option maxRecDepth 20000
set_option maxHeartbeats 8000000

def pwE (c : List Rg) (den s : Int) : Int := fst0 [loE c den, unl (inR s 0 6) 2]
theorem powerOf_err (c : List Rg) (den s : Int) (hm : c.length ≤ 140737488355328) (h : pwE c den s ≠ 0) : AC Tryz.prog 13 [loV c den, I s] (.tuple [.slice 0 [], I (pwE c den s)]) := by
  have w1 := checkLoop_A c den hm
  have w2 := within_A s 0 6
  have w3 := first2_A (loE c den) (unl (inR s 0 6) 2)
  have e : pwE c den s = fst0 [loE c den, unl (inR s 0 6) 2] := rfl
  rw [← e] at w3
  clear e
  generalize pwE c den s = u at *
  refine AC.nil0 ?_
  refine ac_body Tryz.func13 rfl (by kernel_rfl) fun w0 ok => ?_; show AWp _ (ctx0 w0 ok _) _ (ARet _ _ _) (entry _)
  (repeat' (first | (with_reducible first | intro hg | refine mv (by constructor) ?_) | ((with_reducible first | refine zR ?_ ?_ | refine zW mixed ?_ ?_); exact kr) | ((with_reducible apply zK); exact rfl; exact tf) | ((with_reducible apply zCD); exact rfl) | ((with_reducible apply zCN); exact rfl) | ((with_reducible apply zC); exact rfl) | ((with_reducible refine zX ?_ ?_); exact rfl) | ((with_reducible refine zE (And.intro ?_ ?_)); exact kr) | (with_reducible refine zE ?_) | ((with_reducible apply zP); (first | exact dp | exact oc rfl (w1) | exact oc rfl (w2) | exact oc rfl (w3) | exact oc rfl (unless_A _ _))) | ((with_reducible apply zN); exact dn) | ((with_reducible apply zA); exact da) | ((with_reducible apply zS); exact ds) | ((with_reducible apply zY); exact rfl; exact rfl; exact tf) | ((with_reducible apply zG); exact rfl; exact rfl; exact tf) | ((with_reducible apply zU); exact rfl; exact rfl) | ((with_reducible apply zD); exact rfl; exact rfl) | ((with_reducible apply zB); exact rfl; exact rfl)))
  ((with_reducible first | apply q_retR | apply q_retN); exact rl)
  rfl
theorem powerOf_ok (c : List Rg) (den : Int) (s : Nat) (hs : s ≤ 6) (h : loE c den = 0) : AC Tryz.prog 13 [loV c den, I s] (.tuple [mxV (mkL c.length (powM c den c.length s)), I 0]) := by
  have hL := loE_ok h
  have w1 := checkLoop_A c den (by have := hL.l3; omega)
  rw [h] at w1
  have w2 := within_A s 0 6
  rw [inR_true.2 (by omega)] at w2
  have w4 := power_A c den hL s hs
  refine ac_body Tryz.func13 rfl (by kernel_rfl) fun w0 ok => ?_; show AWp _ (ctx0 w0 ok _) _ (ARet _ _ _) (entry _)
  (repeat' (first | (with_reducible first | intro hg | refine mv (by constructor) ?_) | ((with_reducible first | refine zR ?_ ?_ | refine zW mixed ?_ ?_); exact kr) | ((with_reducible apply zK); exact rfl; exact tf) | ((with_reducible apply zCD); exact rfl) | ((with_reducible apply zCN); exact rfl) | ((with_reducible apply zC); exact rfl) | ((with_reducible refine zX ?_ ?_); exact rfl) | ((with_reducible refine zE (And.intro ?_ ?_)); exact kr) | (with_reducible refine zE ?_) | ((with_reducible apply zP); (first | exact dp | exact oc rfl (w1) | exact oc rfl (w2) | exact oc rfl (w4) | exact oc rfl (unless_A _ _) | exact oc rfl (first2_A _ _))) | ((with_reducible apply zN); exact dn) | ((with_reducible apply zA); exact da) | ((with_reducible apply zS); exact ds) | ((with_reducible apply zY); exact rfl; exact rfl; exact tf) | ((with_reducible apply zG); exact rfl; exact rfl; exact tf) | ((with_reducible apply zU); exact rfl; exact rfl) | ((with_reducible apply zD); exact rfl; exact rfl) | ((with_reducible apply zB); exact rfl; exact rfl)))
  ((with_reducible first | apply q_retR | apply q_retN); exact rl)
  rfl
theorem fst0_dup {u : Int} {l l2 : List Int} (h : fst0 l = u) (hu : u ≠ 0) : fst0 (l ++ l2) = u := by
  induction l with
  | nil => exact absurd h.symm hu
  | cons a l ih =>
    by_cases ha : a = 0
    · subst ha
      exact ih h
    · rw [List.cons_append, fst0_ne ha]
      rw [fst0_ne ha] at h
      exact h
theorem srE_lo {c : List Rg} {den : Int} {x : List Int} {cs : List (List Int)} (h : loE c den ≠ 0) : srE c den x cs = loE c den := by
  have e : srH c den x cs = loE c den := fst0_ne h _
  unfold srE
  rw [e, beq0f h]; rfl
theorem srE_eq {c : List Rg} {den : Int} {x : List Int} {cs : List (List Int)} (h : loE c den = 0) : srE c den x cs = bif sxE c x == 0 then ckE c cs else sxE c x := by
  have e : srH c den x cs = fst0 ([unl (decide ((x.length : Int) = (c.length : Int))) 10, unl (!x.any fun n => !inR n (-100) 100) 2] ++ [unl (decide ((cs.length : Int) ≤ 8)) 8]) := by
    unfold srH
    rw [h]; rfl
  by_cases hx : sxE c x = 0
  · have hx' : fst0 [unl (decide ((x.length : Int) = (c.length : Int))) 10, unl (!x.any fun n => !inR n (-100) 100) 2] = 0 := hx
    obtain ⟨k1, k2⟩ := fst0_cons hx'
    rw [fst0_one] at k2
    have e2 : srH c den x cs = unl (decide ((cs.length : Int) ≤ 8)) 8 := by
      rw [e, k1, k2]
      exact (fst0_zero _).trans ((fst0_zero _).trans (fst0_one _))
    unfold srE
    rw [e2, hx]
    unfold ckE
    cases decide ((cs.length : Int) ≤ 8) <;> rfl
  · have e2 : srH c den x cs = sxE c x := by
      rw [e]
      exact fst0_dup rfl hx
    unfold srE
    rw [e2, beq0f hx]; rfl
theorem rnE_eq {c : List Rg} {den : Int} {x : List Int} {cs : List (List Int)} {es : List Int} (h : srE c den x cs = 0) : rnE c den x cs es = qrE cs es := by
  unfold rnE qrE
  rw [h]; rfl
theorem RnOk.qs {c : List Rg} {den : Int} {x : List Int} {cs : List (List Int)} {es : List Int} (h : RnOk c den x cs es) : QsOk den x cs es :=
  ⟨h.lo.d, by rw [h.xl]; exact h.lo.l1, by rw [h.xl]; exact h.lo.l3, h.xb, by have := h.cl; omega, h.cf, by have := h.dl; omega, by have := h.dl; have := h.cl; omega, h.db⟩
/-- Whatever RunOf answers for a valid loop and start, its reference answers, too. -/
theorem runOf_both (c : List Rg) (den : Int) (x : List Int) (cs : List (List Int)) (es : List Int) (h : srE c den x cs = 0) (h5 : es.length ≤ 1000000) : ∃ L e, L.length ≤ 8 ∧ AC Tryz.prog 15 [loV c den, .agg (runC x cs es)] (.tuple [frV L, I e]) ∧ AC Tryz.prog 24 [loV c den, .agg (runC x cs es)] (.tuple [frV L, I e]) := by
  obtain ⟨j1, j2, j3, j4, j5⟩ := srE_ok h
  have hl := loE_ok j1
  by_cases hq : rnE c den x cs es = 0
  · have hV := rnE_ok hq
    refine ⟨_, _, ?_, runOf_ok c den x cs es hq, qrunOf_ok c den x cs es hV.qs hV.cl hV.dl⟩
    unfold rnV
    cases (List.range cs.length).all fun k => smQ (vlt den cs es x k)
    · exact Nat.zero_le _
    · show (outF den cs es x cs.length).length ≤ 8
      rw [outF_len]; exact j4
  · have hcr : ∀ r ∈ cs, r.length ≤ 140737488355328 := fun r hr => by
      obtain ⟨t, ht, rfl⟩ := List.getElem_of_mem hr
      have := (cfE1_ok (cfE_ok j5 t ht)).1
      rw [List.getD_eq_getElem?_getD, List.getElem?_eq_getElem ht] at this
      have this : cs[t].length = c.length := this
      have := hl.l3
      omega
    have h1 := runOf_err c den x cs es (by have := hl.l3; omega) (by have := hl.l3; omega) (by omega) hcr (by omega) hq
    rw [rnE_eq h] at hq h1
    exact ⟨[], _, Nat.zero_le _, h1, qrunOf_err c den x cs es (by omega) hq⟩
theorem gaugeLoops_A (aw : AC Tryz.prog 9 [] (B true)) (c : List Rg) (den s : Int) (x : List Int) (cs : List (List Int)) (es : List Int) (hc : c.length ≤ 140737488355328) (hx : x.length ≤ 140737488355328) (hcs : cs.length ≤ 140737488355328) (hr : ∀ r ∈ cs, r.length ≤ 140737488355328) (he : es.length ≤ 140737488355328) :
    AC Tryz.prog 3 [loV c den, I s, .agg (runC x cs es)] (B true) := by
  have wf := few_A c den
  have ws := short_A x
  have wt := fewTicks_A cs hcs
  by_cases g1 : (c.length : Int) ≤ 5
  rotate_left
  · rw [decide_eq_false g1] at wf
    refine ac_body Tryz.func3 rfl (by kernel_rfl) fun w0 ok => ?_; show AWp _ (ctx0 w0 ok _) _ (ARet _ _ _) (entry _)
    (repeat' (first | (with_reducible first | intro hg | refine mv (by constructor) ?_) | ((with_reducible first | refine zR ?_ ?_ | refine zW mixed ?_ ?_); exact kr) | ((with_reducible apply zK); exact rfl; exact tf) | ((with_reducible apply zCD); exact rfl) | ((with_reducible apply zCN); exact rfl) | ((with_reducible apply zC); exact rfl) | ((with_reducible refine zX ?_ ?_); exact rfl) | ((with_reducible refine zE (And.intro ?_ ?_)); exact kr) | (with_reducible refine zE ?_) | ((with_reducible apply zP); (first | exact dp | exact oc rfl (aw) | exact oc rfl (wf))) | ((with_reducible apply zN); exact dn) | ((with_reducible apply zA); exact da) | ((with_reducible apply zS); exact ds) | ((with_reducible apply zY); exact rfl; exact rfl; exact tf) | ((with_reducible apply zG); exact rfl; exact rfl; exact tf) | ((with_reducible apply zU); exact rfl; exact rfl) | ((with_reducible apply zD); exact rfl; exact rfl) | ((with_reducible apply zB); exact rfl; exact rfl)))
    ((with_reducible first | apply q_retR | apply q_retN); exact rl)
    rfl
  rw [decide_eq_true g1] at wf
  by_cases g2 : (x.length : Int) ≤ 5
  rotate_left
  · rw [decide_eq_false g2] at ws
    refine ac_body Tryz.func3 rfl (by kernel_rfl) fun w0 ok => ?_; show AWp _ (ctx0 w0 ok _) _ (ARet _ _ _) (entry _)
    (repeat' (first | (with_reducible first | intro hg | refine mv (by constructor) ?_) | ((with_reducible first | refine zR ?_ ?_ | refine zW mixed ?_ ?_); exact kr) | ((with_reducible apply zK); exact rfl; exact tf) | ((with_reducible apply zCD); exact rfl) | ((with_reducible apply zCN); exact rfl) | ((with_reducible apply zC); exact rfl) | ((with_reducible refine zX ?_ ?_); exact rfl) | ((with_reducible refine zE (And.intro ?_ ?_)); exact kr) | (with_reducible refine zE ?_) | ((with_reducible apply zP); (first | exact dp | exact oc rfl (aw) | exact oc rfl (wf) | exact oc rfl (ws))) | ((with_reducible apply zN); exact dn) | ((with_reducible apply zA); exact da) | ((with_reducible apply zS); exact ds) | ((with_reducible apply zY); exact rfl; exact rfl; exact tf) | ((with_reducible apply zG); exact rfl; exact rfl; exact tf) | ((with_reducible apply zU); exact rfl; exact rfl) | ((with_reducible apply zD); exact rfl; exact rfl) | ((with_reducible apply zB); exact rfl; exact rfl)))
    ((with_reducible first | apply q_retR | apply q_retN); exact rl)
    rfl
  rw [decide_eq_true g2] at ws
  cases g3 : decide (cs.length ≤ 10) && cs.all fun r => decide ((r.length : Int) ≤ 5)
  · rw [g3] at wt
    refine ac_body Tryz.func3 rfl (by kernel_rfl) fun w0 ok => ?_; show AWp _ (ctx0 w0 ok _) _ (ARet _ _ _) (entry _)
    (repeat' (first | (with_reducible first | intro hg | refine mv (by constructor) ?_) | ((with_reducible first | refine zR ?_ ?_ | refine zW mixed ?_ ?_); exact kr) | ((with_reducible apply zK); exact rfl; exact tf) | ((with_reducible apply zCD); exact rfl) | ((with_reducible apply zCN); exact rfl) | ((with_reducible apply zC); exact rfl) | ((with_reducible refine zX ?_ ?_); exact rfl) | ((with_reducible refine zE (And.intro ?_ ?_)); exact kr) | (with_reducible refine zE ?_) | ((with_reducible apply zP); (first | exact dp | exact oc rfl (aw) | exact oc rfl (wf) | exact oc rfl (ws) | exact oc rfl (wt))) | ((with_reducible apply zN); exact dn) | ((with_reducible apply zA); exact da) | ((with_reducible apply zS); exact ds) | ((with_reducible apply zY); exact rfl; exact rfl; exact tf) | ((with_reducible apply zG); exact rfl; exact rfl; exact tf) | ((with_reducible apply zU); exact rfl; exact rfl) | ((with_reducible apply zD); exact rfl; exact rfl) | ((with_reducible apply zB); exact rfl; exact rfl)))
    ((with_reducible first | apply q_retR | apply q_retN); exact rl)
    rfl
  rw [g3] at wt
  rw [Bool.and_eq_true, decide_eq_true_eq, List.all_eq_true] at g3
  obtain ⟨g3, g4⟩ := g3
  have g4 : ∀ r ∈ cs, r.length ≤ 1000000 := fun r hr => by have := of_decide_eq_true (g4 r hr); omega
  by_cases g5 : es.length ≤ 10
  rotate_left
  · have g5 : 10 < (es.length : Int) := by omega
    refine ac_body Tryz.func3 rfl (by kernel_rfl) fun w0 ok => ?_; show AWp _ (ctx0 w0 ok _) _ (ARet _ _ _) (entry _)
    (repeat' (first | (with_reducible first | intro hg | refine mv (by constructor) ?_) | ((with_reducible first | refine zR ?_ ?_ | refine zW mixed ?_ ?_); exact kr) | ((with_reducible apply zK); exact rfl; exact tf) | ((with_reducible apply zCD); exact rfl) | ((with_reducible apply zCN); exact rfl) | ((with_reducible apply zC); exact rfl) | ((with_reducible refine zX ?_ ?_); exact rfl) | ((with_reducible refine zE (And.intro ?_ ?_)); exact kr) | (with_reducible refine zE ?_) | ((with_reducible apply zP); (first | exact dp | exact oc rfl (aw) | exact oc rfl (wf) | exact oc rfl (ws) | exact oc rfl (wt))) | ((with_reducible apply zN); exact dn) | ((with_reducible apply zA); exact da) | ((with_reducible apply zS); exact ds) | ((with_reducible apply zY); exact rfl; exact rfl; exact tf) | ((with_reducible apply zG); exact rfl; exact rfl; exact tf) | ((with_reducible apply zU); exact rfl; exact rfl) | ((with_reducible apply zD); exact rfl; exact rfl) | ((with_reducible apply zB); exact rfl; exact rfl)))
    ((with_reducible first | apply q_retR | apply q_retN); exact rl)
    rfl
  have wc := qcopy_A c den (by omega)
  have wr1 := copyRun_A x cs es (by omega) (by omega) g4 (by omega)
  have wl := qloopErr_A c den hc
  have wk := checkLoop_A c den hc
  have wq1 := qstartErr_A c den x hc hx
  have wq2 := qcoefsErr_A c den cs hc hcs hr
  have wi := bwithin_A s 0 6
  clear g4 hc hx hcs he
  by_cases hl : loE c den = 0
  rotate_left
  · have e1 : pwE c den s = loE c den := fst0_ne hl _
    have e2 : rnE c den x cs es = loE c den := by
      have := srE_lo (x := x) (cs := cs) hl
      unfold rnE
      rw [this]; exact fst0_ne hl _
    have wp := powerOf_err c den s (by omega) (by rw [e1]; exact hl)
    have wn := runOf_err c den x cs es (by omega) (by omega) (by omega) hr (by omega) (by rw [e2]; exact hl)
    rw [e1] at wp
    rw [e2] at wn
    have wn : AC Tryz.prog 15 [loV c den, .agg (runC x cs es)] (.tuple [.slice 0 [], I (loE c den)]) := wn
    clear e1 e2 wq1 wq2 hr
    generalize loE c den = u at *
    refine ac_body Tryz.func3 rfl (by kernel_rfl) fun w0 ok => ?_; show AWp _ (ctx0 w0 ok _) _ (ARet _ _ _) (entry _)
    (repeat' (first | (with_reducible first | intro hg | refine mv (by constructor) ?_) | ((with_reducible first | refine zR ?_ ?_ | refine zW mixed ?_ ?_); exact kr) | ((with_reducible apply zK); exact rfl; exact tf) | ((with_reducible apply zCD); exact rfl) | ((with_reducible apply zCN); exact rfl) | ((with_reducible apply zC); exact rfl) | ((with_reducible refine zX ?_ ?_); exact rfl) | ((with_reducible refine zE (And.intro ?_ ?_)); exact kr) | (with_reducible refine zE ?_) | ((with_reducible apply zP); (first | exact dp | exact oc rfl (aw) | exact oc rfl (wf) | exact oc rfl (ws) | exact oc rfl (wt) | exact oc rfl (wc) | exact oc rfl (wr1) | exact oc rfl (wl) | exact oc rfl (wk) | exact oc rfl (wp) | exact oc rfl (wn))) | ((with_reducible apply zN); exact dn) | ((with_reducible apply zA); exact da) | ((with_reducible apply zS); exact ds) | ((with_reducible apply zY); exact rfl; exact rfl; exact tf) | ((with_reducible apply zG); exact rfl; exact rfl; exact tf) | ((with_reducible apply zU); exact rfl; exact rfl) | ((with_reducible apply zD); exact rfl; exact rfl) | ((with_reducible apply zB); exact rfl; exact rfl)))
    ((with_reducible first | apply q_retR | apply q_retN); exact rl)
    rfl
  have hlo := loE_ok hl
  have hsr := srE_eq (x := x) (cs := cs) hl
  have hrun : ∃ L e u v, L.length ≤ 8 ∧ sxE c x = u ∧ ckE c cs = v ∧ ((u ≠ 0 ∧ e = u ∧ L = []) ∨ (u = 0 ∧ v ≠ 0 ∧ e = v ∧ L = []) ∨ (u = 0 ∧ v = 0 ∧ AC Tryz.prog 24 [loV c den, .agg (runC x cs es)] (.tuple [frV L, I e]))) ∧ AC Tryz.prog 15 [loV c den, .agg (runC x cs es)] (.tuple [frV L, I e]) := by
    by_cases h1 : sxE c x = 0
    · by_cases h2 : ckE c cs = 0
      · rw [h1] at hsr
        have hsr : srE c den x cs = ckE c cs := hsr
        obtain ⟨L, e, k0, k1, k2⟩ := runOf_both c den x cs es (by rw [hsr]; exact h2) (by omega)
        exact ⟨L, e, _, _, k0, rfl, rfl, .inr (.inr ⟨h1, h2, k2⟩), k1⟩
      · rw [h1] at hsr
        have hsr : srE c den x cs = ckE c cs := hsr
        have e2 : rnE c den x cs es = ckE c cs := by unfold rnE; rw [hsr]; exact fst0_ne h2 _
        have wn := runOf_err c den x cs es (by omega) (by omega) (by omega) hr (by omega) (by rw [e2]; exact h2)
        rw [e2] at wn
        exact ⟨[], _, _, _, Nat.zero_le _, rfl, rfl, .inr (.inl ⟨h1, h2, rfl, rfl⟩), wn⟩
    · rw [beq0f h1] at hsr
      have hsr : srE c den x cs = sxE c x := hsr
      have e2 : rnE c den x cs es = sxE c x := by unfold rnE; rw [hsr]; exact fst0_ne h1 _
      have wn := runOf_err c den x cs es (by omega) (by omega) (by omega) hr (by omega) (by rw [e2]; exact h1)
      rw [e2] at wn
      exact ⟨[], _, _, _, Nat.zero_le _, rfl, rfl, .inl ⟨h1, rfl, rfl⟩, wn⟩
  obtain ⟨L, e, u, v, k0, k1, k2, k3, wn⟩ := hrun
  rw [hl] at wl wk
  rw [k1] at wq1
  rw [k2] at wq2
  clear hsr k1 k2 hr
  have wF := fracs_A L (by omega)
  by_cases hs : 0 ≤ s ∧ s ≤ 6
  · obtain ⟨n, rfl⟩ : ∃ n : Nat, s = n := ⟨s.toNat, by omega⟩
    rw [inR_true.2 hs] at wi
    have wp := powerOf_ok c den n (by omega) hl
    have wqp := qpowerOf_A c den hlo n (by omega)
    have wS := sameMatrix_A (mkL c.length (powM c den c.length n)) (by rw [mkL_len]; omega) (fun r hr => by
      obtain ⟨i, hi, rfl⟩ := List.getElem_of_mem hr
      have h2 := (mkL_sq c.length (powM c den c.length n)).2 i (by rw [mkL_len] at hi; exact hi)
      rw [List.getD_eq_getElem?_getD, List.getElem?_eq_getElem hi] at h2
      have h2 : (mkL c.length (powM c den c.length n))[i].length = c.length := h2
      omega)
    have hml := mkL_len c.length (powM c den c.length n)
    generalize mkL c.length (powM c den c.length n) = M at *
    clear hs hlo hl
    rcases k3 with ⟨h1, rfl, rfl⟩ | ⟨rfl, h2, rfl, rfl⟩ | ⟨rfl, rfl, wqn⟩
    · refine ac_body Tryz.func3 rfl (by kernel_rfl) fun w0 ok => ?_; show AWp _ (ctx0 w0 ok _) _ (ARet _ _ _) (entry _)
      (repeat' (first | (with_reducible first | intro hg | refine mv (by constructor) ?_) | ((with_reducible first | refine zR ?_ ?_ | refine zW mixed ?_ ?_); exact kr) | ((with_reducible apply zK); exact rfl; exact tf) | ((with_reducible apply zCD); exact rfl) | ((with_reducible apply zCN); exact rfl) | ((with_reducible apply zC); exact rfl) | ((with_reducible refine zX ?_ ?_); exact rfl) | ((with_reducible refine zE (And.intro ?_ ?_)); exact kr) | (with_reducible refine zE ?_) | ((with_reducible apply zP); (first | exact dp | exact oc rfl (aw) | exact oc rfl (wf) | exact oc rfl (ws) | exact oc rfl (wt) | exact oc rfl (wc) | exact oc rfl (wr1) | exact oc rfl (wl) | exact oc rfl (wk) | exact oc rfl (wp) | exact oc rfl (wn) | exact oc rfl (wi) | exact oc rfl (wqp) | exact oc rfl (wS) | exact oc rfl (wq1))) | ((with_reducible apply zN); exact dn) | ((with_reducible apply zA); exact da) | ((with_reducible apply zS); exact ds) | ((with_reducible apply zY); exact rfl; exact rfl; exact tf) | ((with_reducible apply zG); exact rfl; exact rfl; exact tf) | ((with_reducible apply zU); exact rfl; exact rfl) | ((with_reducible apply zD); exact rfl; exact rfl) | ((with_reducible apply zB); exact rfl; exact rfl)))
      ((with_reducible first | apply q_retR | apply q_retN); exact rl)
      rfl
    · refine ac_body Tryz.func3 rfl (by kernel_rfl) fun w0 ok => ?_; show AWp _ (ctx0 w0 ok _) _ (ARet _ _ _) (entry _)
      (repeat' (first | (with_reducible first | intro hg | refine mv (by constructor) ?_) | ((with_reducible first | refine zR ?_ ?_ | refine zW mixed ?_ ?_); exact kr) | ((with_reducible apply zK); exact rfl; exact tf) | ((with_reducible apply zCD); exact rfl) | ((with_reducible apply zCN); exact rfl) | ((with_reducible apply zC); exact rfl) | ((with_reducible refine zX ?_ ?_); exact rfl) | ((with_reducible refine zE (And.intro ?_ ?_)); exact kr) | (with_reducible refine zE ?_) | ((with_reducible apply zP); (first | exact dp | exact oc rfl (aw) | exact oc rfl (wf) | exact oc rfl (ws) | exact oc rfl (wt) | exact oc rfl (wc) | exact oc rfl (wr1) | exact oc rfl (wl) | exact oc rfl (wk) | exact oc rfl (wp) | exact oc rfl (wn) | exact oc rfl (wi) | exact oc rfl (wqp) | exact oc rfl (wS) | exact oc rfl (wq1) | exact oc rfl (wq2))) | ((with_reducible apply zN); exact dn) | ((with_reducible apply zA); exact da) | ((with_reducible apply zS); exact ds) | ((with_reducible apply zY); exact rfl; exact rfl; exact tf) | ((with_reducible apply zG); exact rfl; exact rfl; exact tf) | ((with_reducible apply zU); exact rfl; exact rfl) | ((with_reducible apply zD); exact rfl; exact rfl) | ((with_reducible apply zB); exact rfl; exact rfl)))
      ((with_reducible first | apply q_retR | apply q_retN); exact rl)
      rfl
    · refine ac_body Tryz.func3 rfl (by kernel_rfl) fun w0 ok => ?_; show AWp _ (ctx0 w0 ok _) _ (ARet _ _ _) (entry _)
      (repeat' (first | (with_reducible first | intro hg | refine mv (by constructor) ?_) | ((with_reducible first | refine zR ?_ ?_ | refine zW mixed ?_ ?_); exact kr) | ((with_reducible apply zK); exact rfl; exact tf) | ((with_reducible apply zCD); exact rfl) | ((with_reducible apply zCN); exact rfl) | ((with_reducible apply zC); exact rfl) | ((with_reducible refine zX ?_ ?_); exact rfl) | ((with_reducible refine zE (And.intro ?_ ?_)); exact kr) | (with_reducible refine zE ?_) | ((with_reducible apply zP); (first | exact dp | exact oc rfl (aw) | exact oc rfl (wf) | exact oc rfl (ws) | exact oc rfl (wt) | exact oc rfl (wc) | exact oc rfl (wr1) | exact oc rfl (wl) | exact oc rfl (wk) | exact oc rfl (wp) | exact oc rfl (wn) | exact oc rfl (wi) | exact oc rfl (wqp) | exact oc rfl (wS) | exact oc rfl (wq1) | exact oc rfl (wq2) | exact oc rfl (wqn) | exact oc rfl (wF))) | ((with_reducible apply zN); exact dn) | ((with_reducible apply zA); exact da) | ((with_reducible apply zS); exact ds) | ((with_reducible apply zY); exact rfl; exact rfl; exact tf) | ((with_reducible apply zG); exact rfl; exact rfl; exact tf) | ((with_reducible apply zU); exact rfl; exact rfl) | ((with_reducible apply zD); exact rfl; exact rfl) | ((with_reducible apply zB); exact rfl; exact rfl)))
      ((with_reducible first | apply q_retR | apply q_retN); exact rl)
      rfl
  · have hs' : inR s 0 6 = false := by
      cases hb : inR s 0 6
      · rfl
      · exact absurd (inR_true.1 hb) hs
    have e1 : pwE c den s = 2 := by unfold pwE; rw [hl, hs']; rfl
    have wp := powerOf_err c den s (by omega) (by rw [e1]; decide)
    rw [e1] at wp
    rw [hs'] at wi
    clear hlo hl e1 hs'
    rcases k3 with ⟨h1, rfl, rfl⟩ | ⟨rfl, h2, rfl, rfl⟩ | ⟨rfl, rfl, wqn⟩
    · refine ac_body Tryz.func3 rfl (by kernel_rfl) fun w0 ok => ?_; show AWp _ (ctx0 w0 ok _) _ (ARet _ _ _) (entry _)
      (repeat' (first | (with_reducible first | intro hg | refine mv (by constructor) ?_) | ((with_reducible first | refine zR ?_ ?_ | refine zW mixed ?_ ?_); exact kr) | ((with_reducible apply zK); exact rfl; exact tf) | ((with_reducible apply zCD); exact rfl) | ((with_reducible apply zCN); exact rfl) | ((with_reducible apply zC); exact rfl) | ((with_reducible refine zX ?_ ?_); exact rfl) | ((with_reducible refine zE (And.intro ?_ ?_)); exact kr) | (with_reducible refine zE ?_) | ((with_reducible apply zP); (first | exact dp | exact oc rfl (aw) | exact oc rfl (wf) | exact oc rfl (ws) | exact oc rfl (wt) | exact oc rfl (wc) | exact oc rfl (wr1) | exact oc rfl (wl) | exact oc rfl (wk) | exact oc rfl (wp) | exact oc rfl (wn) | exact oc rfl (wi) | exact oc rfl (wq1))) | ((with_reducible apply zN); exact dn) | ((with_reducible apply zA); exact da) | ((with_reducible apply zS); exact ds) | ((with_reducible apply zY); exact rfl; exact rfl; exact tf) | ((with_reducible apply zG); exact rfl; exact rfl; exact tf) | ((with_reducible apply zU); exact rfl; exact rfl) | ((with_reducible apply zD); exact rfl; exact rfl) | ((with_reducible apply zB); exact rfl; exact rfl)))
      ((with_reducible first | apply q_retR | apply q_retN); exact rl)
      rfl
    · refine ac_body Tryz.func3 rfl (by kernel_rfl) fun w0 ok => ?_; show AWp _ (ctx0 w0 ok _) _ (ARet _ _ _) (entry _)
      (repeat' (first | (with_reducible first | intro hg | refine mv (by constructor) ?_) | ((with_reducible first | refine zR ?_ ?_ | refine zW mixed ?_ ?_); exact kr) | ((with_reducible apply zK); exact rfl; exact tf) | ((with_reducible apply zCD); exact rfl) | ((with_reducible apply zCN); exact rfl) | ((with_reducible apply zC); exact rfl) | ((with_reducible refine zX ?_ ?_); exact rfl) | ((with_reducible refine zE (And.intro ?_ ?_)); exact kr) | (with_reducible refine zE ?_) | ((with_reducible apply zP); (first | exact dp | exact oc rfl (aw) | exact oc rfl (wf) | exact oc rfl (ws) | exact oc rfl (wt) | exact oc rfl (wc) | exact oc rfl (wr1) | exact oc rfl (wl) | exact oc rfl (wk) | exact oc rfl (wp) | exact oc rfl (wn) | exact oc rfl (wi) | exact oc rfl (wq1) | exact oc rfl (wq2))) | ((with_reducible apply zN); exact dn) | ((with_reducible apply zA); exact da) | ((with_reducible apply zS); exact ds) | ((with_reducible apply zY); exact rfl; exact rfl; exact tf) | ((with_reducible apply zG); exact rfl; exact rfl; exact tf) | ((with_reducible apply zU); exact rfl; exact rfl) | ((with_reducible apply zD); exact rfl; exact rfl) | ((with_reducible apply zB); exact rfl; exact rfl)))
      ((with_reducible first | apply q_retR | apply q_retN); exact rl)
      rfl
    · refine ac_body Tryz.func3 rfl (by kernel_rfl) fun w0 ok => ?_; show AWp _ (ctx0 w0 ok _) _ (ARet _ _ _) (entry _)
      (repeat' (first | (with_reducible first | intro hg | refine mv (by constructor) ?_) | ((with_reducible first | refine zR ?_ ?_ | refine zW mixed ?_ ?_); exact kr) | ((with_reducible apply zK); exact rfl; exact tf) | ((with_reducible apply zCD); exact rfl) | ((with_reducible apply zCN); exact rfl) | ((with_reducible apply zC); exact rfl) | ((with_reducible refine zX ?_ ?_); exact rfl) | ((with_reducible refine zE (And.intro ?_ ?_)); exact kr) | (with_reducible refine zE ?_) | ((with_reducible apply zP); (first | exact dp | exact oc rfl (aw) | exact oc rfl (wf) | exact oc rfl (ws) | exact oc rfl (wt) | exact oc rfl (wc) | exact oc rfl (wr1) | exact oc rfl (wl) | exact oc rfl (wk) | exact oc rfl (wp) | exact oc rfl (wn) | exact oc rfl (wi) | exact oc rfl (wq1) | exact oc rfl (wq2) | exact oc rfl (wqn) | exact oc rfl (wF))) | ((with_reducible apply zN); exact dn) | ((with_reducible apply zA); exact da) | ((with_reducible apply zS); exact ds) | ((with_reducible apply zY); exact rfl; exact rfl; exact tf) | ((with_reducible apply zG); exact rfl; exact rfl; exact tf) | ((with_reducible apply zU); exact rfl; exact rfl) | ((with_reducible apply zD); exact rfl; exact rfl) | ((with_reducible apply zB); exact rfl; exact rfl)))
      ((with_reducible first | apply q_retR | apply q_retN); exact rl)
      rfl

end Go.Proofs.YtiabcffcbhlbiaaGreat
