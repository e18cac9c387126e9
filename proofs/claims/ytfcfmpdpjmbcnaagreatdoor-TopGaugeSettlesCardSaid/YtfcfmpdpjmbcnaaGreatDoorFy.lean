/- Strings of loops: the law. DRAFT until NOTES says that it builds. -/
import Derived.Test.YtfcfmpdpjmbcnaaGreatDoorYc
import Derived.Test.YtfcfmpdpjmbcnaaGreatDoorFx
set_option linter.unusedVariables false
set_option linter.unusedSimpArgs false
namespace Go.Proofs.YtfcfmpdpjmbcnaaGreatDoor
open Go.RowKit
set_option maxRecDepth 20000
set_option maxHeartbeats 8000000

theorem same_A (c : List Rg) (den : Int) (hm : c.length ≤ 140737488355328) : AC Tryz.prog 12 [loV c den, loV c den] (B true) := by
  have h := branges_A c hm
  refine ac_body Tryz.func12 rfl (by kernel_rfl) fun w0 ok => ?_; show AWp _ (ctx0 w0 ok _) _ (ARet _ _ _) (entry _)
  (repeat' (first | (with_reducible first | intro hg | refine mv (by constructor) ?_) | ((with_reducible first | refine zR ?_ ?_ | refine zW mixed ?_ ?_); exact kr) | ((with_reducible apply zK); exact rfl; exact tf) | ((with_reducible apply zCD); exact rfl) | ((with_reducible apply zCN); exact rfl) | ((with_reducible apply zC); exact rfl) | ((with_reducible refine zX ?_ ?_); exact rfl) | ((with_reducible refine zE (And.intro ?_ ?_)); exact kr) | (with_reducible refine zE ?_) | ((with_reducible apply zP); (first | exact dp | exact oc rfl (h))) | ((with_reducible apply zN); exact dn) | ((with_reducible apply zA); exact da) | ((with_reducible apply zS); exact ds) | ((with_reducible apply zY); exact rfl; exact rfl; exact tf) | ((with_reducible apply zG); exact rfl; exact rfl; exact tf) | ((with_reducible apply zU); exact rfl; exact rfl) | ((with_reducible apply zD); exact rfl; exact rfl) | ((with_reducible apply zB); exact rfl; exact rfl)))
  all_goals first | (exfalso; simp at hg; done) | skip
  ((with_reducible first | apply q_retR | apply q_retN); exact rl)
  first | rfl | exact rt_bool (decide_eq_true rfl).symm
theorem parse_fmtG (c : List Rg) (den : Int) (hci : ∀ r ∈ c, I64 r.1 ∧ I64 r.2) (hd : I64 den) (h : loE c den = 0) : AC Tryz.prog 9 [T8 (fmtG c den)] (.tuple [loV c den, I 0]) := by
  have hL := loE_ok h
  have hr : loopP (cutA 59 [] (fmtG c den)) = some (den, c) := by
    refine loopP_fmt (fun e => ?_) (fun r hr => ?_) ?_
    · have := hL.l1
      rw [e] at this
      exact absurd this (by decide)
    · have := hL.b r hr
      exact ⟨by omega, by omega⟩
    · have := hL.d
      omega
  have hlen := fmtG_len (c := c) (den := den) (by have := hL.l3; omega) hci hd
  refine parseLoop_A _ (by omega) _ (fun e => by rw [hr] at e; cases e) (fun x l e _ => ?_) (fun x l e h4 => ?_)
  · rw [hr] at e
    injection e with e
    injection e with e1 e2
    rw [e1, e2]
  · rw [hr] at e
    injection e with e
    injection e with e1 e2
    rw [← e1, ← e2] at h4
    exact absurd h h4
end Go.Proofs.YtfcfmpdpjmbcnaaGreatDoor
/- IT SETTLES: the law (chapter 5, across chapters). -/
set_option linter.unusedVariables false
set_option linter.unusedSimpArgs false
namespace Go.Proofs.YtfcfmpdpjmbcnaaGreatDoor
open Go.RowKit
set_option maxRecDepth 20000
set_option maxHeartbeats 8000000

theorem tsrE_eq {c : List Rg} {den : Int} {x : List Int} {cs : List (List Int)} (h : loE c den = 0) (hx : sxE c x = 0) (hc : ckE c cs = 0) : srE c den x cs = 0 := by
  obtain ⟨k1, k2⟩ := fst0_cons (show fst0 [unl (decide ((x.length : Int) = (c.length : Int))) 10, unl (!x.any fun n => !inR n (-100) 100) 2] = 0 from hx)
  rw [fst0_one] at k2
  have e2 : srH c den x cs = unl (decide ((cs.length : Int) ≤ 8)) 8 := by
    unfold srH
    rw [h, k1, k2]
    exact (fst0_zero _).trans ((fst0_zero _).trans ((fst0_zero _).trans (fst0_one _)))
  unfold ckE at hc
  unfold srE
  rw [e2]
  cases h8 : decide ((cs.length : Int) ≤ 8)
  · rw [h8] at hc
    cases hc
  · rw [h8] at hc
    exact hc
theorem topGaugeSettles_A (gs : AC Tryz.prog 14 [] (B true)) (c : List Rg) (den s : Int) (w x : List Int) (cs : List (List Int)) (hc : c.length ≤ 140737488355328) (hw : w.length ≤ 140737488355328) (hx : x.length ≤ 140737488355328) (hcs : cs.length ≤ 140737488355328) (hr : ∀ r ∈ cs, r.length ≤ 140737488355328) :
    AC Tryz.prog 4 [loV c den, .agg (prI s w), .agg (grC x cs)] (B true) := by
  by_cases g1 : (c.length : Int) ≤ 3
  rotate_left
  · refine ac_body Tryz.func4 rfl (by kernel_rfl) fun w0 ok => ?_; show AWp _ (ctx0 w0 ok _) _ (ARet _ _ _) (entry _)
    exact zF
  have wl := qloopErr_A c den hc
  by_cases hl : loE c den = 0
  rotate_left
  · generalize loE c den = u at *
    refine ac_body Tryz.func4 rfl (by kernel_rfl) fun w0 ok => ?_; show AWp _ (ctx0 w0 ok _) _ (ARet _ _ _) (entry _)
    exact zF
  rw [hl] at wl
  by_cases g2 : (w.length : Int) ≤ 3
  rotate_left
  · refine ac_body Tryz.func4 rfl (by kernel_rfl) fun w0 ok => ?_; show AWp _ (ctx0 w0 ok _) _ (ARet _ _ _) (entry _)
    exact zF
  have wpf := qproofErr_A c den s w hc hw
  by_cases hpf : pfE c s w = 0
  rotate_left
  · clear hl
    generalize pfE c s w = u at *
    refine ac_body Tryz.func4 rfl (by kernel_rfl) fun w0 ok => ?_; show AWp _ (ctx0 w0 ok _) _ (ARet _ _ _) (entry _)
    exact zF
  rw [hpf] at wpf
  by_cases g3 : (x.length : Int) ≤ 3
  rotate_left
  · clear hl hpf
    refine ac_body Tryz.func4 rfl (by kernel_rfl) fun w0 ok => ?_; show AWp _ (ctx0 w0 ok _) _ (ARet _ _ _) (entry _)
    exact zF
  have wq1 := qstartErr_A c den x hc hx
  by_cases h1 : sxE c x = 0
  rotate_left
  · clear hl hpf
    generalize sxE c x = u at *
    refine ac_body Tryz.func4 rfl (by kernel_rfl) fun w0 ok => ?_; show AWp _ (ctx0 w0 ok _) _ (ARet _ _ _) (entry _)
    exact zF
  rw [h1] at wq1
  by_cases h0 : cs.length = 0
  · have h0 : (cs.length : Int) = 0 := by omega
    clear hl hpf h1
    refine ac_body Tryz.func4 rfl (by kernel_rfl) fun w0 ok => ?_; show AWp _ (ctx0 w0 ok _) _ (ARet _ _ _) (entry _)
    exact zF
  by_cases g4 : (cs.length : Int) ≤ 8
  rotate_left
  · clear hl hpf h1
    refine ac_body Tryz.func4 rfl (by kernel_rfl) fun w0 ok => ?_; show AWp _ (ctx0 w0 ok _) _ (ARet _ _ _) (entry _)
    exact zF
  have wq2 := qcoefsErr_A c den cs hc hcs hr
  by_cases h2 : ckE c cs = 0
  rotate_left
  · clear hl hpf h1
    generalize ckE c cs = u at *
    refine ac_body Tryz.func4 rfl (by kernel_rfl) fun w0 ok => ?_; show AWp _ (ctx0 w0 ok _) _ (ARet _ _ _) (entry _)
    exact zF
  rw [h2] at wq2
  obtain ⟨k, rfl, hp⟩ := pfE_ok hpf
  have hsr := tsrE_eq hl h1 h2
  have hL := loE_ok hl
  have hci : ∀ r ∈ c, I64 r.1 ∧ I64 r.2 := fun r hr => by
    obtain ⟨⟨b1, b2⟩, ⟨b3, b4⟩, _⟩ := hL.b r hr
    exact ⟨⟨by omega, by omega⟩, ⟨by omega, by omega⟩⟩
  have hdI : I64 den := by
    obtain ⟨d1, d2⟩ := hL.d
    exact ⟨by omega, by omega⟩
  have wc := qcopy_A c den (by omega)
  have f1 := formatLoop_A c den (by omega) hci hdI
  have k1 := parse_fmtG c den hci hdI hl
  have sm := same_A c den (by omega)
  have wp := copyProof_A (k : Int) w (by omega)
  have wse := checkSettling_q c den hl k w hp
  have hc0 : 0 < cs.length := by omega
  generalize fmtG c den = a at *
  clear hpf h1 h2 hci hdI hc hw hx hcs hr
  by_cases hN : nrm c den k w < 1
  rotate_left
  · have e : ckS (nrm c den k w) = ((0, 0), 19) := by unfold ckS; rw [decide_eq_false hN]; rfl
    rw [e] at wse
    clear hl hsr hp e hN hL
    refine ac_body Tryz.func4 rfl (by kernel_rfl) fun w0 ok => ?_; show AWp _ (ctx0 w0 ok _) _ (ARet _ _ _) (entry _)
    exact zF
  have e : ckS (nrm c den k w) = frQ (nrm c den k w) := by unfold ckS; rw [decide_eq_true hN]; rfl
  rw [e] at wse
  clear e
  cases hsm : smQ (nrm c den k w)
  · have e : frQ (nrm c den k w) = ((0, 0), 8) := by unfold frQ; rw [hsm]; rfl
    rw [e] at wse
    clear hl hsr hp e hN hL
    refine ac_body Tryz.func4 rfl (by kernel_rfl) fun w0 ok => ?_; show AWp _ (ctx0 w0 ok _) _ (ARet _ _ _) (entry _)
    exact zF
  have e : frQ (nrm c den k w) = (qF (nrm c den k w), 0) := by unfold frQ; rw [hsm]; rfl
  rw [e] at wse
  clear e
  have hrd := fun w0 ok => tgs_rounds c den k w x cs hsr hp hN hsm hc0 w0 ok
  have hN0 : 0 ≤ nrm c den k w := nrmR_nonneg _
  have wlo := bisLow_q (nrm c den k w) hsm
  have wsl := bisSmall_q (nrm c den k w) hsm
  have hn1 : 0 ≤ (nrm c den k w).num := Rat.num_nonneg.2 hN0
  have hn2 : (nrm c den k w).num < ((nrm c den k w).den : Int) := by
    have h := (Rat.lt_iff _ _).1 hN
    rw [show (1 : Rat).num = 1 from rfl, show (1 : Rat).den = 1 from rfl] at h
    omega
  clear hl hsr hp hN hL hN0 hsm
  generalize nrm c den k w = N at *
  have wse : AC Tryz.prog 18 [loV c den, .agg (prI (k : Int) w)] (.tuple [.agg [I N.num, I (N.den : Int)], I 0]) := wse
  have wlo : AC Tryz.prog 20 [.agg [I N.num, I (N.den : Int)]] (B true) := wlo
  have wsl : AC Tryz.prog 21 [.agg [I N.num, I (N.den : Int)]] (B true) := wsl
  refine ac_body Tryz.func4 rfl (by kernel_rfl) fun w0 ok => ?_; show AWp _ (ctx0 w0 ok _) _ (ARet _ _ _) (entry _)
  (repeat' ((fail_if_success (with_reducible show AWp _ _ (.seq (.region 13 _ _) _) _ _)); (first | (with_reducible first | intro hg | refine mv (by constructor) ?_) | ((with_reducible first | refine zR ?_ ?_ | refine zW mixed ?_ ?_); exact kr) | ((with_reducible apply zK); exact rfl; exact tf) | ((with_reducible apply zCD); exact rfl) | ((with_reducible apply zCN); exact rfl) | ((with_reducible apply zC); exact rfl) | ((with_reducible refine zX ?_ ?_); exact rfl) | ((with_reducible refine zE (And.intro ?_ ?_)); exact kr) | (with_reducible refine zE ?_) | ((with_reducible apply zP); (first | exact dp | exact oc rfl (gs) | exact oc rfl (wl) | exact oc rfl (wpf) | exact oc rfl (wq1) | exact oc rfl (wq2) | exact oc rfl (wc) | exact oc rfl (f1) | exact oc rfl (k1) | exact oc rfl (sm) | exact oc rfl (wp) | exact oc rfl (wse) | exact oc rfl (wlo) | exact oc rfl (wsl))) | ((with_reducible apply zN); exact dn) | ((with_reducible apply zA); exact da) | ((with_reducible apply zS); exact ds) | ((with_reducible apply zY); exact rfl; exact rfl; exact tf) | ((with_reducible apply zG); exact rfl; exact rfl; exact tf) | ((with_reducible apply zU); exact rfl; exact rfl) | ((with_reducible apply zD); exact rfl; exact rfl) | ((with_reducible apply zB); exact rfl; exact rfl))))
  refine awp_cut [(3, .ptr 3 0), (4, .ptr 4 0), (5, .ptr 5 0), (9, .ptr 9 0)] [(3, ⟨24, [rgV c, I den]⟩), (4, ⟨39, prfC k w⟩), (5, ⟨42, grC x cs⟩), (9, ⟨47, [I N.num, I (N.den : Int)]⟩)] (And.intro rfl (And.intro rfl (And.intro rfl (And.intro rfl trivial)))) (And.intro rfl (And.intro rfl (And.intro rfl (And.intro rfl trivial)))) ?_
  exact hrd _ _

end Go.Proofs.YtfcfmpdpjmbcnaaGreatDoor
