/- The law of responses at no frequency. Printed by wip/genxn.py. -/
import Derived.Test.YtiabcffcbhlbiaaGreatSr
import Derived.Test.YtiabcffcbhlbiaaGreatSp
import Derived.Test.YtiabcffcbhlbiaaGreatSq
import Derived.Test.YtiabcffcbhlbiaaGreatNf
set_option linter.unusedVariables false
set_option linter.unusedSimpArgs false
namespace Go.Proofs.YtiabcffcbhlbiaaGreat
open Go.RowKit
set_option maxRecDepth 20000
set_option maxHeartbeats 16000000

theorem cmpOne_A (a b : Int) (ha : -1000000000 ≤ a ∧ a ≤ 1000000000) (hb : -1000000000 ≤ b ∧ b ≤ 1000000000) (h : b ≤ a) : ∃ u, 0 ≤ u ∧ AC Tryz.prog 41 [F2 (a, b), F2 (1, 1)] (I u) := by
  by_cases g : b < a
  · refine ⟨1, by decide, ?_⟩
    refine ac_body Tryz.func41 rfl (by kernel_rfl) fun w0 ok => ?_; show AWp _ (ctx0 w0 ok _) _ (ARet _ _ _) (entry _)
    (repeat' (first | (with_reducible first | intro hg | refine mv (by constructor) ?_) | ((with_reducible first | refine zR ?_ ?_ | refine zW mixed ?_ ?_); exact kr) | ((with_reducible apply zK); exact rfl; exact tf) | ((with_reducible apply zCD); exact rfl) | ((with_reducible apply zCN); exact rfl) | ((with_reducible apply zC); exact rfl) | ((with_reducible refine zX ?_ ?_); exact rfl) | ((with_reducible refine zE (And.intro ?_ ?_)); exact kr) | (with_reducible refine zE ?_) | ((with_reducible apply zP); exact dp) | ((with_reducible apply zN); exact dn) | ((with_reducible apply zA); exact da) | ((with_reducible apply zS); exact ds) | ((with_reducible apply zY); exact rfl; exact rfl; exact tf) | ((with_reducible apply zG); exact rfl; exact rfl; exact tf) | ((with_reducible apply zU); exact rfl; exact rfl) | ((with_reducible apply zD); exact rfl; exact rfl) | ((with_reducible apply zB); exact rfl; exact rfl)))
    ((with_reducible first | apply q_retR | apply q_retN); exact rl)
    rfl
  · refine ⟨0, by decide, ?_⟩
    refine ac_body Tryz.func41 rfl (by kernel_rfl) fun w0 ok => ?_; show AWp _ (ctx0 w0 ok _) _ (ARet _ _ _) (entry _)
    (repeat' (first | (with_reducible first | intro hg | refine mv (by constructor) ?_) | ((with_reducible first | refine zR ?_ ?_ | refine zW mixed ?_ ?_); exact kr) | ((with_reducible apply zK); exact rfl; exact tf) | ((with_reducible apply zCD); exact rfl) | ((with_reducible apply zCN); exact rfl) | ((with_reducible apply zC); exact rfl) | ((with_reducible refine zX ?_ ?_); exact rfl) | ((with_reducible refine zE (And.intro ?_ ?_)); exact kr) | (with_reducible refine zE ?_) | ((with_reducible apply zP); exact dp) | ((with_reducible apply zN); exact dn) | ((with_reducible apply zA); exact da) | ((with_reducible apply zS); exact ds) | ((with_reducible apply zY); exact rfl; exact rfl; exact tf) | ((with_reducible apply zG); exact rfl; exact rfl; exact tf) | ((with_reducible apply zU); exact rfl; exact rfl) | ((with_reducible apply zD); exact rfl; exact rfl) | ((with_reducible apply zB); exact rfl; exact rfl)))
    ((with_reducible first | apply q_retR | apply q_retN); exact rl)
    rfl
theorem cmpOne_q (r : Rat) (h : smQ r = true) (h1 : 1 ≤ r) : ∃ u, 0 ≤ u ∧ AC Tryz.prog 41 [F2 (qF r), F2 (1, 1)] (I u) := by
  obtain ⟨k1, k2⟩ := smQ_bnd h
  have hd := den_pos r
  have hn : (r.den : Int) ≤ r.num := by
    have := (Rat.le_iff (1 : Rat) r).1 h1
    have e1 : (1 : Rat).num = 1 := rfl
    have e2 : ((1 : Rat).den : Int) = 1 := rfl
    rw [e1, e2] at this
    omega
  have := cmpOne_A r.num (r.den : Int) ⟨by omega, by omega⟩ ⟨by omega, by omega⟩ hn
  exact this
theorem zer_sx {c : List Rg} : sxE c (zer c.length) = 0 := by
  unfold sxE
  rw [decide_eq_true (by rw [lst_length]), any_of (m := 100) (by decide) fun t _ => by rw [zer_nth]; decide]
  rfl
theorem rsV_cases (c : List Rg) (den : Int) (s : Nat) : (rsV c den s = ((1, 1) :: (List.range s).map (fun t => qF (rsp den (losL c) (t + 1))), 0) ∧ ∀ t, t ≤ s → smQ (rsp den (losL c) t) = true) ∨ rsV c den s = ([], 8) := by
  unfold rsV
  cases h : (List.range s).all fun t => smQ (rsp den (losL c) (t + 1))
  · exact .inr rfl
  · refine .inl ⟨rfl, fun t ht => ?_⟩
    rcases t with _ | t
    · rfl
    · exact List.all_eq_true.1 h t (List.mem_range.2 (by omega))
theorem rsH_get {c : List Rg} {den : Int} {s t : Nat} (h : t ≤ s) : ((1, 1) :: (List.range s).map (fun t => qF (rsp den (losL c) (t + 1)))).getD t rg0 = qF (rsp den (losL c) t) := by
  rcases t with _ | t
  · rfl
  · rw [List.getD_cons_succ, List.getD_eq_getElem?_getD, List.getElem?_map, List.getElem?_range (by omega)]; rfl
def kR : Nat → Nat
  | 0 => 3
  | t + 1 => kR t + 3 + kR t + 3 + 1
theorem kR_le : ∀ {t : Nat}, t ≤ 9 → kR t ≤ 10000 := by
  intro t ht
  have : ∀ t, t < 10 → kR t ≤ 10000 := by decide
  exact this t (by omega)
theorem sum_S {f : Nat → Rat} : ∀ {n : Nat}, (∀ t, t < n → RatS 3 (f t)) → RatS (kR n) (sumQ f n)
  | 0, _ => (int_ratS (n := 0) (by decide) : RatS 3 ((0 : Int) : Rat))
  | n + 1, h => by
    unfold sumQ kR
    exact (sum_S fun t ht => h t (by omega)).add (h n (by omega))
theorem gaugeNoFrequency_A (aw : AC Tryz.prog 9 [] (B true)) (c : List Rg) (den s : Int) (w dz : List Int) (hc : c.length ≤ 140737488355328) (hw : w.length ≤ 140737488355328) (hdz : dz.length ≤ 140737488355328) :
    AC Tryz.prog 6 [loV c den, .agg (prI s w), isl dz] (B true) := by
  have wf := few_A c den
  have wl := qloopErr_A c den hc
  have we := qisExact_A c den hc
  have wp := qproofErr_A c den s w hc hw
  by_cases g1 : (c.length : Int) ≤ 5
  rotate_left
  · rw [decide_eq_false g1] at wf
    refine ac_body Tryz.func6 rfl (by kernel_rfl) fun w0 ok => ?_; show AWp _ (ctx0 w0 ok _) _ (ARet _ _ _) (entry _)
    (repeat' (first | (with_reducible first | intro hg | refine mv (by constructor) ?_) | ((with_reducible first | refine zR ?_ ?_ | refine zW mixed ?_ ?_); exact kr) | ((with_reducible apply zK); exact rfl; exact tf) | ((with_reducible apply zCD); exact rfl) | ((with_reducible apply zCN); exact rfl) | ((with_reducible apply zC); exact rfl) | ((with_reducible refine zX ?_ ?_); exact rfl) | ((with_reducible refine zE (And.intro ?_ ?_)); exact kr) | (with_reducible refine zE ?_) | ((with_reducible apply zP); (first | exact dp | exact oc rfl (aw) | exact oc rfl (wf))) | ((with_reducible apply zN); exact dn) | ((with_reducible apply zA); exact da) | ((with_reducible apply zS); exact ds) | ((with_reducible apply zY); exact rfl; exact rfl; exact tf) | ((with_reducible apply zG); exact rfl; exact rfl; exact tf) | ((with_reducible apply zU); exact rfl; exact rfl) | ((with_reducible apply zD); exact rfl; exact rfl) | ((with_reducible apply zB); exact rfl; exact rfl)))
    ((with_reducible first | apply q_retR | apply q_retN); exact rl)
    rfl
  rw [decide_eq_true g1] at wf
  by_cases g2 : loE c den = 0
  rotate_left
  · generalize loE c den = u at *
    refine ac_body Tryz.func6 rfl (by kernel_rfl) fun w0 ok => ?_; show AWp _ (ctx0 w0 ok _) _ (ARet _ _ _) (entry _)
    (repeat' (first | (with_reducible first | intro hg | refine mv (by constructor) ?_) | ((with_reducible first | refine zR ?_ ?_ | refine zW mixed ?_ ?_); exact kr) | ((with_reducible apply zK); exact rfl; exact tf) | ((with_reducible apply zCD); exact rfl) | ((with_reducible apply zCN); exact rfl) | ((with_reducible apply zC); exact rfl) | ((with_reducible refine zX ?_ ?_); exact rfl) | ((with_reducible refine zE (And.intro ?_ ?_)); exact kr) | (with_reducible refine zE ?_) | ((with_reducible apply zP); (first | exact dp | exact oc rfl (aw) | exact oc rfl (wf) | exact oc rfl (wl))) | ((with_reducible apply zN); exact dn) | ((with_reducible apply zA); exact da) | ((with_reducible apply zS); exact ds) | ((with_reducible apply zY); exact rfl; exact rfl; exact tf) | ((with_reducible apply zG); exact rfl; exact rfl; exact tf) | ((with_reducible apply zU); exact rfl; exact rfl) | ((with_reducible apply zD); exact rfl; exact rfl) | ((with_reducible apply zB); exact rfl; exact rfl)))
    ((with_reducible first | apply q_retR | apply q_retN); exact rl)
    rfl
  rw [g2] at wl
  cases g3 : exB c
  · rw [g3] at we
    refine ac_body Tryz.func6 rfl (by kernel_rfl) fun w0 ok => ?_; show AWp _ (ctx0 w0 ok _) _ (ARet _ _ _) (entry _)
    (repeat' (first | (with_reducible first | intro hg | refine mv (by constructor) ?_) | ((with_reducible first | refine zR ?_ ?_ | refine zW mixed ?_ ?_); exact kr) | ((with_reducible apply zK); exact rfl; exact tf) | ((with_reducible apply zCD); exact rfl) | ((with_reducible apply zCN); exact rfl) | ((with_reducible apply zC); exact rfl) | ((with_reducible refine zX ?_ ?_); exact rfl) | ((with_reducible refine zE (And.intro ?_ ?_)); exact kr) | (with_reducible refine zE ?_) | ((with_reducible apply zP); (first | exact dp | exact oc rfl (aw) | exact oc rfl (wf) | exact oc rfl (wl) | exact oc rfl (we))) | ((with_reducible apply zN); exact dn) | ((with_reducible apply zA); exact da) | ((with_reducible apply zS); exact ds) | ((with_reducible apply zY); exact rfl; exact rfl; exact tf) | ((with_reducible apply zG); exact rfl; exact rfl; exact tf) | ((with_reducible apply zU); exact rfl; exact rfl) | ((with_reducible apply zD); exact rfl; exact rfl) | ((with_reducible apply zB); exact rfl; exact rfl)))
    ((with_reducible first | apply q_retR | apply q_retN); exact rl)
    rfl
  rw [g3] at we
  by_cases g4 : pfE c s w = 0
  rotate_left
  · generalize pfE c s w = u at *
    refine ac_body Tryz.func6 rfl (by kernel_rfl) fun w0 ok => ?_; show AWp _ (ctx0 w0 ok _) _ (ARet _ _ _) (entry _)
    (repeat' (first | (with_reducible first | intro hg | refine mv (by constructor) ?_) | ((with_reducible first | refine zR ?_ ?_ | refine zW mixed ?_ ?_); exact kr) | ((with_reducible apply zK); exact rfl; exact tf) | ((with_reducible apply zCD); exact rfl) | ((with_reducible apply zCN); exact rfl) | ((with_reducible apply zC); exact rfl) | ((with_reducible refine zX ?_ ?_); exact rfl) | ((with_reducible refine zE (And.intro ?_ ?_)); exact kr) | (with_reducible refine zE ?_) | ((with_reducible apply zP); (first | exact dp | exact oc rfl (aw) | exact oc rfl (wf) | exact oc rfl (wl) | exact oc rfl (we) | exact oc rfl (wp))) | ((with_reducible apply zN); exact dn) | ((with_reducible apply zA); exact da) | ((with_reducible apply zS); exact ds) | ((with_reducible apply zY); exact rfl; exact rfl; exact tf) | ((with_reducible apply zG); exact rfl; exact rfl; exact tf) | ((with_reducible apply zU); exact rfl; exact rfl) | ((with_reducible apply zD); exact rfl; exact rfl) | ((with_reducible apply zB); exact rfl; exact rfl)))
    ((with_reducible first | apply q_retR | apply q_retN); exact rl)
    rfl
  rw [g4] at wp
  by_cases g6 : dz.length ≤ 8
  rotate_left
  ·
    refine ac_body Tryz.func6 rfl (by kernel_rfl) fun w0 ok => ?_; show AWp _ (ctx0 w0 ok _) _ (ARet _ _ _) (entry _)
    (repeat' (first | (with_reducible first | intro hg | refine mv (by constructor) ?_) | ((with_reducible first | refine zR ?_ ?_ | refine zW mixed ?_ ?_); exact kr) | ((with_reducible apply zK); exact rfl; exact tf) | ((with_reducible apply zCD); exact rfl) | ((with_reducible apply zCN); exact rfl) | ((with_reducible apply zC); exact rfl) | ((with_reducible refine zX ?_ ?_); exact rfl) | ((with_reducible refine zE (And.intro ?_ ?_)); exact kr) | (with_reducible refine zE ?_) | ((with_reducible apply zP); (first | exact dp | exact oc rfl (aw) | exact oc rfl (wf) | exact oc rfl (wl) | exact oc rfl (we) | exact oc rfl (wp))) | ((with_reducible apply zN); exact dn) | ((with_reducible apply zA); exact da) | ((with_reducible apply zS); exact ds) | ((with_reducible apply zY); exact rfl; exact rfl; exact tf) | ((with_reducible apply zG); exact rfl; exact rfl; exact tf) | ((with_reducible apply zU); exact rfl; exact rfl) | ((with_reducible apply zD); exact rfl; exact rfl) | ((with_reducible apply zB); exact rfl; exact rfl)))
    ((with_reducible first | apply q_retR | apply q_retN); exact rl)
    rfl
  obtain ⟨m0, rfl, hp⟩ := pfE_ok g4
  obtain ⟨m, rfl⟩ : ∃ m, m0 = m + 1 := ⟨m0 - 1, by have := hp.s1; omega⟩
  have hL := loE_ok g2
  have hl1 := hL.l1
  have hl3 := hL.l3
  have hwl := hp.l
  have wcp := qcopy_A c den (by omega)
  have wpr := copyProof_A ((m + 1 : Nat) : Int) w (by omega)
  cases hn : decide (nrm c den (m + 1) w < 1)
  · have wg := gainBound_no c den g2 g3 (m + 1) w hp hn
    refine ac_body Tryz.func6 rfl (by kernel_rfl) fun w0 ok => ?_; show AWp _ (ctx0 w0 ok _) _ (ARet _ _ _) (entry _)
    (repeat' (first | (with_reducible first | intro hg | refine mv (by constructor) ?_) | ((with_reducible first | refine zR ?_ ?_ | refine zW mixed ?_ ?_); exact kr) | ((with_reducible apply zK); exact rfl; exact tf) | ((with_reducible apply zCD); exact rfl) | ((with_reducible apply zCN); exact rfl) | ((with_reducible apply zC); exact rfl) | ((with_reducible refine zX ?_ ?_); exact rfl) | ((with_reducible refine zE (And.intro ?_ ?_)); exact kr) | (with_reducible refine zE ?_) | ((with_reducible apply zP); (first | exact dp | exact oc rfl (aw) | exact oc rfl (wf) | exact oc rfl (wl) | exact oc rfl (we) | exact oc rfl (wp) | exact oc rfl (wcp) | exact oc rfl (wpr) | exact oc rfl (wg))) | ((with_reducible apply zN); exact dn) | ((with_reducible apply zA); exact da) | ((with_reducible apply zS); exact ds) | ((with_reducible apply zY); exact rfl; exact rfl; exact tf) | ((with_reducible apply zG); exact rfl; exact rfl; exact tf) | ((with_reducible apply zU); exact rfl; exact rfl) | ((with_reducible apply zD); exact rfl; exact rfl) | ((with_reducible apply zB); exact rfl; exact rfl)))
    ((with_reducible first | apply q_retR | apply q_retN); exact rl)
    rfl
  have hn := of_decide_eq_true hn
  have wg := gainBound_yes c den g2 g3 m w hp hn
  have hg1 := gain_one hL hp hn
  have hgr9 := rsp_gain hL hp hn 9
  have hrun := fun (T M : Nat) (hM : ∀ k, k < T → (nth dz k).natAbs ≤ M) (t : Nat) (ht : t < T) => run_gain hL hp hn (dz := dz) (x := zer c.length) (zer_nth _) hM ht
  generalize gnB den (losL c) w c.length (m + 1) (nrm c den (m + 1) w) = G at *
  cases hG : smQ G
  · unfold frQ at wg
    rw [hG] at wg
    refine ac_body Tryz.func6 rfl (by kernel_rfl) fun w0 ok => ?_; show AWp _ (ctx0 w0 ok _) _ (ARet _ _ _) (entry _)
    (repeat' (first | (with_reducible first | intro hg | refine mv (by constructor) ?_) | ((with_reducible first | refine zR ?_ ?_ | refine zW mixed ?_ ?_); exact kr) | ((with_reducible apply zK); exact rfl; exact tf) | ((with_reducible apply zCD); exact rfl) | ((with_reducible apply zCN); exact rfl) | ((with_reducible apply zC); exact rfl) | ((with_reducible refine zX ?_ ?_); exact rfl) | ((with_reducible refine zE (And.intro ?_ ?_)); exact kr) | (with_reducible refine zE ?_) | ((with_reducible apply zP); (first | exact dp | exact oc rfl (aw) | exact oc rfl (wf) | exact oc rfl (wl) | exact oc rfl (we) | exact oc rfl (wp) | exact oc rfl (wcp) | exact oc rfl (wpr) | exact oc rfl (wg))) | ((with_reducible apply zN); exact dn) | ((with_reducible apply zA); exact da) | ((with_reducible apply zS); exact ds) | ((with_reducible apply zY); exact rfl; exact rfl; exact tf) | ((with_reducible apply zG); exact rfl; exact rfl; exact tf) | ((with_reducible apply zU); exact rfl; exact rfl) | ((with_reducible apply zD); exact rfl; exact rfl) | ((with_reducible apply zB); exact rfl; exact rfl)))
    ((with_reducible first | apply q_retR | apply q_retN); exact rl)
    rfl
  have ef : frQ G = (qF G, 0) := by unfold frQ; rw [hG]; rfl
  rw [ef] at wg
  dsimp only at wg
  have w1 := gsmall_q G hG
  have w2 := bwhole_A 1
  obtain ⟨u, hu, w3⟩ := cmpOne_q G hG hg1
  have w4 := from_q G hG
  have w5 := copyInts_A dz (by omega)
  clear ef hp hn hg1 g1 hwl
  refine ac_body Tryz.func6 rfl (by kernel_rfl) fun w0 ok => ?_; show AWp _ (ctx0 w0 ok _) _ (ARet _ _ _) (entry _)
  (repeat' (first | (with_reducible first | intro hg | refine mv (by constructor) ?_) | ((with_reducible first | refine zR ?_ ?_ | refine zW mixed ?_ ?_); exact kr) | ((with_reducible apply zK); exact rfl; exact tf) | ((with_reducible apply zCD); exact rfl) | ((with_reducible apply zCN); exact rfl) | ((with_reducible apply zC); exact rfl) | ((with_reducible refine zX ?_ ?_); exact rfl) | ((with_reducible refine zE (And.intro ?_ ?_)); exact kr) | (with_reducible refine zE ?_) | ((with_reducible apply zP); (first | exact o_makeSlD (n := c.length) rfl (by omega) (by omega) (zer_int _) | exact dp | exact oc rfl (aw) | exact oc rfl (wf) | exact oc rfl (wl) | exact oc rfl (we) | exact oc rfl (wp) | exact oc rfl (wcp) | exact oc rfl (wpr) | exact oc rfl (wg) | exact oc rfl (w1) | exact oc rfl (w2) | exact oc rfl (w3) | exact oc rfl (w4) | exact oc rfl (w5))) | ((with_reducible apply zN); exact dn) | ((with_reducible apply zA); exact da) | ((with_reducible apply zS); exact ds) | ((with_reducible apply zY); exact rfl; exact rfl; exact tf) | ((with_reducible apply zG); exact rfl; exact rfl; exact tf) | ((with_reducible apply zU); exact rfl; exact rfl) | ((with_reducible apply zD); exact rfl; exact rfl) | ((with_reducible apply zB); exact rfl; exact rfl)))
  clear wf wl we wp wpr wg w1 w2 w3 w4 w5 aw
  refine awp_loopL3 (fun (k b cap : Nat) => (2, .d (isl dz)) :: (3, .ptr 3 0) :: (9, .ptr 9 0) :: (10, .d (I (bigD dz k : Nat))) :: (11, .ptr 11 0) :: (12, .d (I (k : Nat))) :: lkF PN b cap 1 k) (fun k b cap => (3, ⟨24, [rgV c, I den]⟩) :: (9, ⟨78, ratC G⟩) :: (11, ⟨28, [.slice c.length (ivs (zer c.length)), lkC b cap k, isl dz]⟩) :: lkM PN 25 (llS (rpl c k)) k) (fun k b cap => (k ≤ dz.length ∧ LkJ b cap k) ∧ ∀ t, t < k → inR (nth dz t) (-100) 100 = true) (fun k _ _ => dz.length - k) 0 0 0 ⟨⟨Nat.zero_le _, .inl rfl⟩, fun t ht => absurd ht (Nat.not_lt_zero t)⟩ (And.intro rfl (And.intro rfl (And.intro rfl (And.intro rfl (And.intro rfl (And.intro rfl trivial)))))) (And.intro rfl (And.intro rfl (And.intro rfl trivial))) fun k b cap ⟨⟨hk, hb⟩, hin⟩ => ?_
  by_cases hlt : k < dz.length
  · have w1 := bwithin_A (nth dz k) (-100) 100
    have hsC := rpl_snoc c k
    have hlC := rpl_len c k
    clear hgr9 hrun wcp
    cases hq : inR (nth dz k) (-100) 100
    · clear hin
      rw [hq] at w1
      rcases k with _ | k
      · (repeat' (first | (with_reducible first | intro hg | refine mv (by constructor) ?_) | ((with_reducible first | refine zR ?_ ?_ | refine zW mixed ?_ ?_); exact kr) | ((with_reducible apply zK); exact rfl; exact tf) | ((with_reducible apply zCD); exact rfl) | ((with_reducible apply zCN); exact rfl) | ((with_reducible apply zC); exact rfl) | ((with_reducible refine zX ?_ ?_); exact rfl) | ((with_reducible refine zE (And.intro ?_ ?_)); exact kr) | (with_reducible refine zE ?_) | ((with_reducible apply zP); (first | exact o_indexI (xs := dz) (j := 0) rfl rfl (by omega) (by omega) | exact dp | exact oc rfl (w1))) | ((with_reducible apply zN); exact dn) | ((with_reducible apply zA); exact da) | ((with_reducible apply zS); exact ds) | ((with_reducible apply zY); exact rfl; exact rfl; exact tf) | ((with_reducible apply zG); exact rfl; exact rfl; exact tf) | ((with_reducible apply zU); exact rfl; exact rfl) | ((with_reducible apply zD); exact rfl; exact rfl) | ((with_reducible apply zB); exact rfl; exact rfl)))
        ((with_reducible first | apply q_retR | apply q_retN); exact rl)
        rfl
      · (repeat' (first | (with_reducible first | intro hg | refine mv (by constructor) ?_) | ((with_reducible first | refine zR ?_ ?_ | refine zW mixed ?_ ?_); exact kr) | ((with_reducible apply zK); exact rfl; exact tf) | ((with_reducible apply zCD); exact rfl) | ((with_reducible apply zCN); exact rfl) | ((with_reducible apply zC); exact rfl) | ((with_reducible refine zX ?_ ?_); exact rfl) | ((with_reducible refine zE (And.intro ?_ ?_)); exact kr) | (with_reducible refine zE ?_) | ((with_reducible apply zP); (first | exact o_indexI (xs := dz) (j := k + 1) rfl rfl (by omega) (by omega) | exact dp | exact oc rfl (w1))) | ((with_reducible apply zN); exact dn) | ((with_reducible apply zA); exact da) | ((with_reducible apply zS); exact ds) | ((with_reducible apply zY); exact rfl; exact rfl; exact tf) | ((with_reducible apply zG); exact rfl; exact rfl; exact tf) | ((with_reducible apply zU); exact rfl; exact rfl) | ((with_reducible apply zD); exact rfl; exact rfl) | ((with_reducible apply zB); exact rfl; exact rfl)))
        ((with_reducible first | apply q_retR | apply q_retN); exact rl)
        rfl
    rw [hq] at w1
    have hin2 : ∀ t, t < k + 1 → inR (nth dz t) (-100) 100 = true := fun t ht => by
      by_cases e : t = k
      · rw [e]; exact hq
      · exact hin t (by omega)
    obtain ⟨r1, r2⟩ := inR_true.1 hq
    clear hin hq
    have w2 := bsize_A (nth dz k) ⟨by omega, by omega⟩
    have hmx : max ((bigD dz k : Nat) : Int) ((nth dz k).natAbs : Int) = ((bigD dz (k + 1) : Nat) : Int) := by
      show _ = ((max (bigD dz k) (nth dz k).natAbs : Nat) : Int)
      omega
    rcases k with _ | k
    · clear hb
      (repeat' (first | (with_reducible first | intro hg | refine mv (by constructor) ?_) | ((with_reducible first | refine zR ?_ ?_ | refine zW mixed ?_ ?_); exact kr) | ((with_reducible apply zK); exact rfl; exact tf) | ((with_reducible apply zCD); exact rfl) | ((with_reducible apply zCN); exact rfl) | ((with_reducible apply zC); exact rfl) | ((with_reducible refine zX ?_ ?_); exact rfl) | ((with_reducible refine zE (And.intro ?_ ?_)); exact kr) | (with_reducible refine zE ?_) | ((with_reducible apply zP); (first | exact o_indexI (xs := dz) (j := 0) rfl rfl (by omega) (by omega) | exact dp | exact oc rfl (w1) | exact oc rfl (w2))) | ((with_reducible apply zN); exact dn) | ((with_reducible apply zA); exact da) | ((with_reducible apply zS); exact ds) | ((with_reducible apply zY); exact rfl; exact rfl; exact tf) | ((with_reducible apply zG); exact rfl; exact rfl; exact tf) | ((with_reducible apply zU); exact rfl; exact rfl) | ((with_reducible apply zD); exact rfl; exact rfl) | ((with_reducible apply zB); exact rfl; exact rfl)))
      refine awp_loopL (α := Nat) (fun i => (2, .d (isl dz)) :: (3, .ptr 3 0) :: (9, .ptr 9 0) :: (10, .d (I (bigD dz (0 + 1) : Nat))) :: (11, .ptr 11 0) :: (12, .d (I (0 : Nat))) :: (13, ownS 116 i) :: (14, .d (I i)) :: []) (fun i => (3, ⟨24, [rgV c, I den]⟩) :: (9, ⟨78, ratC G⟩) :: (11, ⟨28, [.slice c.length (ivs (zer c.length)), nilV, isl dz]⟩) :: ownM 116 3 (ivs (lst (fun i => (c.getD i rg0).1) i)) i) (fun i => i ≤ c.length) (fun i => c.length - i) 0 (Nat.zero_le _) (And.intro rfl (And.intro rfl (And.intro rfl (And.intro (congrArg (fun n : Int => AV.d (I n)) hmx) (And.intro (rfl) (And.intro (rfl) (And.intro (rfl) (And.intro (rfl) trivial)))))))) (And.intro rfl (And.intro rfl (And.intro rfl trivial))) fun i hi => ?_
      by_cases hil : i < c.length
      · have hsi : ivs (lst (fun i => (c.getD i rg0).1) i) ++ [I (c.getD i rg0).1] = ivs (lst (fun i => (c.getD i rg0).1) (i + 1)) := ivs_snoc _ _ rfl
        have hli : (ivs (lst (fun i => (c.getD i rg0).1) i)).length = i * 1 := by rw [ivs_len, Nat.mul_one]
        clear hmx
        rcases i with _ | i
        · (repeat' (first | (with_reducible first | intro hg | refine mv (by constructor) ?_) | ((with_reducible first | refine zR ?_ ?_ | refine zW mixed ?_ ?_); exact kr) | ((with_reducible apply zK); exact rfl; exact tf) | ((with_reducible apply zCD); exact rfl) | ((with_reducible apply zCN); exact rfl) | ((with_reducible apply zC); exact rfl) | ((with_reducible refine zX ?_ ?_); exact rfl) | ((with_reducible refine zE (And.intro ?_ ?_)); exact kr) | (with_reducible refine zE ?_) | ((with_reducible apply zP); (first | exact o_indexF rg0 (j := 0) frC_len (by decide) rfl rfl (by omega) rfl | exact dp)) | ((with_reducible apply zN); exact dn) | ((with_reducible apply zA); exact da) | ((with_reducible apply zS); exact ds) | ((with_reducible apply zY); exact rfl; exact rfl; exact tf) | ((with_reducible apply zG); exact rfl; exact rfl; exact tf) | ((with_reducible apply zU); exact rfl; exact rfl) | ((with_reducible apply zD); exact rfl; exact rfl) | ((with_reducible apply zB); exact rfl; exact rfl)))
          exact ⟨1, hil, by omega, (And.intro rfl (And.intro rfl (And.intro rfl (And.intro rfl (And.intro rfl (And.intro rfl (And.intro rfl (And.intro rfl trivial)))))))), (And.intro rfl (And.intro rfl (And.intro rfl (And.intro (congrArg (fun l => some (Blk.mk _ l)) hsi) trivial))))⟩
        · (repeat' (first | (with_reducible first | intro hg | refine mv (by constructor) ?_) | ((with_reducible first | refine zR ?_ ?_ | refine zW mixed ?_ ?_); exact kr) | ((with_reducible apply zK); exact rfl; exact tf) | ((with_reducible apply zCD); exact rfl) | ((with_reducible apply zCN); exact rfl) | ((with_reducible apply zC); exact rfl) | ((with_reducible refine zX ?_ ?_); exact rfl) | ((with_reducible refine zE (And.intro ?_ ?_)); exact kr) | (with_reducible refine zE ?_) | ((with_reducible apply zP); (first | exact o_indexF rg0 (j := i + 1) frC_len (by decide) rfl rfl (by omega) rfl | exact dp)) | ((with_reducible apply zN); exact dn) | ((with_reducible apply zA); (first | ((apply o_app); (case hx => exact rfl); (case hm => exact rfl); (case hy => exact .own rfl rfl); (case hty => exact rfl); (case hl => solve | exact hli | rfl); (case hcl => solve | rfl | exact hli | simp); (case hpos => omega); (case hb => omega); (case hb2 => omega); (case hnew => exact rfl)) | ((apply o_app); (case hx => exact rfl); (case hm => exact rfl); (case hy => exact .sl rfl); (case hty => exact rfl); (case hl => solve | exact hli | rfl); (case hcl => solve | rfl | exact hli | simp); (case hpos => omega); (case hb => omega); (case hb2 => omega); (case hnew => exact rfl)) | exact da)) | ((with_reducible apply zS); exact ds) | ((with_reducible apply zY); exact rfl; exact rfl; exact tf) | ((with_reducible apply zG); exact rfl; exact rfl; exact tf) | ((with_reducible apply zU); exact rfl; exact rfl) | ((with_reducible apply zD); exact rfl; exact rfl) | ((with_reducible apply zB); exact rfl; exact rfl)))
          exact ⟨i + 1 + 1, hil, by omega, (And.intro rfl (And.intro rfl (And.intro rfl (And.intro rfl (And.intro rfl (And.intro rfl (And.intro rfl (And.intro rfl trivial)))))))), (And.intro rfl (And.intro rfl (And.intro rfl (And.intro (congrArg (fun l => some (Blk.mk _ l)) hsi) trivial))))⟩
      obtain rfl : i = c.length := by omega
      obtain ⟨m, hm⟩ : ∃ m, c.length = m + 1 := ⟨c.length - 1, by omega⟩
      refine awp_cut [(2, .d (isl dz)), (3, .ptr 3 0), (9, .ptr 9 0), (10, .d (I (bigD dz (0 + 1) : Nat))), (11, .ptr 11 0), (12, .d (I (0 : Nat))), (13, ownS 116 c.length), (14, .d (I c.length))] [(3, ⟨24, [rgV c, I den]⟩), (9, ⟨78, ratC G⟩), (11, ⟨28, [.slice c.length (ivs (zer c.length)), nilV, isl dz]⟩), (116, ⟨3, ivs (lst (fun i => (c.getD i rg0).1) c.length)⟩)] (And.intro rfl (And.intro rfl (And.intro rfl (And.intro rfl (And.intro rfl (And.intro rfl (And.intro rfl (And.intro rfl trivial)))))))) (And.intro rfl (And.intro rfl (And.intro rfl (And.intro (by rw [hm]; rfl) trivial)))) ?_
      refine awp_own 13 116 (t := 3) (fun i => (c.getD i rg0).1) rfl (fun k hk => rfl) ?_
      rw [losL_lst]
      clear hm
      (repeat' ((fail_if_success (with_reducible show AWp _ _ (.region 24 _ _) _ _)); (first | (with_reducible first | intro hg | refine mv (by constructor) ?_) | ((with_reducible first | refine zR ?_ ?_ | refine zW mixed ?_ ?_); exact kr) | ((with_reducible apply zK); exact rfl; exact tf) | ((with_reducible apply zCD); exact rfl) | ((with_reducible apply zCN); exact rfl) | ((with_reducible apply zC); exact rfl) | ((with_reducible refine zX ?_ ?_); exact rfl) | ((with_reducible refine zE (And.intro ?_ ?_)); exact kr) | (with_reducible refine zE ?_) | ((with_reducible apply zP); exact dp) | ((with_reducible apply zN); exact dn) | ((with_reducible apply zA); exact da) | ((with_reducible apply zS); exact ds) | ((with_reducible apply zY); exact rfl; exact rfl; exact tf) | ((with_reducible apply zG); exact rfl; exact rfl; exact tf) | ((with_reducible apply zU); exact rfl; exact rfl) | ((with_reducible apply zD); exact rfl; exact rfl) | ((with_reducible apply zB); exact rfl; exact rfl))))
      refine awp_regionL ?_
      ((refine wpl_run (l1 := [_, _, _, _, _]) rfl ?_ ?_); exact kr; (repeat' (first | (with_reducible first | intro hg | refine mv (by constructor) ?_) | ((with_reducible first | refine zR ?_ ?_ | refine zW mixed ?_ ?_); exact kr) | ((with_reducible apply zK); exact rfl; exact tf) | ((with_reducible apply zCD); exact rfl) | ((with_reducible apply zCN); exact rfl) | ((with_reducible apply zC); exact rfl) | ((with_reducible refine zX ?_ ?_); exact rfl) | ((with_reducible refine zE (And.intro ?_ ?_)); exact kr) | (with_reducible refine zE ?_) | ((with_reducible apply zP); exact dp) | ((with_reducible apply zN); exact dn) | ((with_reducible apply zA); exact da) | ((with_reducible apply zS); exact ds) | ((with_reducible apply zY); exact rfl; exact rfl; exact tf) | ((with_reducible apply zG); exact rfl; exact rfl; exact tf) | ((with_reducible apply zU); exact rfl; exact rfl) | ((with_reducible apply zD); exact rfl; exact rfl) | ((with_reducible apply zB); exact rfl; exact rfl))))
      refine wpl_turn (turns_pin 121 121 PN (by rfl) (by rfl) (by rfl) (by rfl) (by kernel_rfl)) fun y => ?_
      ((refine wpl_run (l1 := [_, _]) rfl ?_ ?_); exact kr; (repeat' (first | (with_reducible first | intro hg | refine mv (by constructor) ?_) | ((with_reducible first | refine zR ?_ ?_ | refine zW mixed ?_ ?_); exact kr) | ((with_reducible apply zK); exact rfl; exact tf) | ((with_reducible apply zCD); exact rfl) | ((with_reducible apply zCN); exact rfl) | ((with_reducible apply zC); exact rfl) | ((with_reducible refine zX ?_ ?_); exact rfl) | ((with_reducible refine zE (And.intro ?_ ?_)); exact kr) | (with_reducible refine zE ?_) | ((with_reducible apply zP); exact dp) | ((with_reducible apply zN); exact dn) | ((with_reducible apply zA); exact da) | ((with_reducible apply zS); exact ds) | ((with_reducible apply zY); exact rfl; exact rfl; exact tf) | ((with_reducible apply zG); exact rfl; exact rfl; exact tf) | ((with_reducible apply zU); exact rfl; exact rfl) | ((with_reducible apply zD); exact rfl; exact rfl) | ((with_reducible apply zB); exact rfl; exact rfl))))
      refine wpl_nil ?_
      (repeat' (first | (with_reducible first | intro hg | refine mv (by constructor) ?_) | ((with_reducible first | refine zR ?_ ?_ | refine zW mixed ?_ ?_); exact kr) | ((with_reducible apply zK); exact rfl; exact tf) | ((with_reducible apply zCD); exact rfl) | ((with_reducible apply zCN); exact rfl) | ((with_reducible apply zC); exact rfl) | ((with_reducible refine zX ?_ ?_); exact rfl) | ((with_reducible refine zE (And.intro ?_ ?_)); exact kr) | (with_reducible refine zE ?_) | ((with_reducible apply zP); exact dp) | ((with_reducible apply zN); exact dn) | ((with_reducible apply zA); exact da) | ((with_reducible apply zS); exact ds) | ((with_reducible apply zY); exact rfl; exact rfl; exact tf) | ((with_reducible apply zG); exact rfl; exact rfl; exact tf) | ((with_reducible apply zU); exact rfl; exact rfl) | ((with_reducible apply zD); exact rfl; exact rfl) | ((with_reducible apply zB); exact rfl; exact rfl)))
      exact ⟨1, y.1.1, y.1.2, ⟨⟨hlt, LkJ.of y⟩, hin2⟩, by omega, (And.intro rfl (And.intro rfl (And.intro rfl (And.intro rfl (And.intro rfl (And.intro rfl (And.intro rfl trivial))))))), (And.intro rfl (And.intro rfl (And.intro rfl (And.intro (congrArg (fun l => some (Blk.mk _ l)) hsC) trivial))))⟩
    · skip
      obtain ⟨hb1, hb2⟩ := hb.resolve_left (by omega)
      (repeat' (first | (with_reducible first | intro hg | refine mv (by constructor) ?_) | ((with_reducible first | refine zR ?_ ?_ | refine zW mixed ?_ ?_); exact kr) | ((with_reducible apply zK); exact rfl; exact tf) | ((with_reducible apply zCD); exact rfl) | ((with_reducible apply zCN); exact rfl) | ((with_reducible apply zC); exact rfl) | ((with_reducible refine zX ?_ ?_); exact rfl) | ((with_reducible refine zE (And.intro ?_ ?_)); exact kr) | (with_reducible refine zE ?_) | ((with_reducible apply zP); (first | exact o_indexI (xs := dz) (j := k + 1) rfl rfl (by omega) (by omega) | exact dp | exact oc rfl (w1) | exact oc rfl (w2))) | ((with_reducible apply zN); exact dn) | ((with_reducible apply zA); exact da) | ((with_reducible apply zS); exact ds) | ((with_reducible apply zY); exact rfl; exact rfl; exact tf) | ((with_reducible apply zG); exact rfl; exact rfl; exact tf) | ((with_reducible apply zU); exact rfl; exact rfl) | ((with_reducible apply zD); exact rfl; exact rfl) | ((with_reducible apply zB); exact rfl; exact rfl)))
      refine awp_loopL (α := Nat) (fun i => (2, .d (isl dz)) :: (3, .ptr 3 0) :: (9, .ptr 9 0) :: (10, .d (I (bigD dz (k + 1 + 1) : Nat))) :: (11, .ptr 11 0) :: (12, .d (I (k + 1 : Nat))) :: (13, ownS 116 i) :: (14, .d (I i)) :: [(PN, linkP b cap 1)]) (fun i => (3, ⟨24, [rgV c, I den]⟩) :: (9, ⟨78, ratC G⟩) :: (11, ⟨28, [.slice c.length (ivs (zer c.length)), linkC b cap (k + 1), isl dz]⟩) :: (PN, ⟨25, llS (rpl c (k + 1))⟩) :: ownM 116 3 (ivs (lst (fun i => (c.getD i rg0).1) i)) i) (fun i => i ≤ c.length) (fun i => c.length - i) 0 (Nat.zero_le _) (And.intro rfl (And.intro rfl (And.intro rfl (And.intro (congrArg (fun n : Int => AV.d (I n)) hmx) (And.intro (rfl) (And.intro (rfl) (And.intro (rfl) (And.intro (rfl) (And.intro (rfl) trivial))))))))) (And.intro rfl (And.intro rfl (And.intro rfl (And.intro rfl trivial)))) fun i hi => ?_
      by_cases hil : i < c.length
      · have hsi : ivs (lst (fun i => (c.getD i rg0).1) i) ++ [I (c.getD i rg0).1] = ivs (lst (fun i => (c.getD i rg0).1) (i + 1)) := ivs_snoc _ _ rfl
        have hli : (ivs (lst (fun i => (c.getD i rg0).1) i)).length = i * 1 := by rw [ivs_len, Nat.mul_one]
        clear hmx
        rcases i with _ | i
        · (repeat' (first | (with_reducible first | intro hg | refine mv (by constructor) ?_) | ((with_reducible first | refine zR ?_ ?_ | refine zW mixed ?_ ?_); exact kr) | ((with_reducible apply zK); exact rfl; exact tf) | ((with_reducible apply zCD); exact rfl) | ((with_reducible apply zCN); exact rfl) | ((with_reducible apply zC); exact rfl) | ((with_reducible refine zX ?_ ?_); exact rfl) | ((with_reducible refine zE (And.intro ?_ ?_)); exact kr) | (with_reducible refine zE ?_) | ((with_reducible apply zP); (first | exact o_indexF rg0 (j := 0) frC_len (by decide) rfl rfl (by omega) rfl | exact dp)) | ((with_reducible apply zN); exact dn) | ((with_reducible apply zA); exact da) | ((with_reducible apply zS); exact ds) | ((with_reducible apply zY); exact rfl; exact rfl; exact tf) | ((with_reducible apply zG); exact rfl; exact rfl; exact tf) | ((with_reducible apply zU); exact rfl; exact rfl) | ((with_reducible apply zD); exact rfl; exact rfl) | ((with_reducible apply zB); exact rfl; exact rfl)))
          exact ⟨1, hil, by omega, (And.intro rfl (And.intro rfl (And.intro rfl (And.intro rfl (And.intro rfl (And.intro rfl (And.intro rfl (And.intro rfl (And.intro rfl trivial))))))))), (And.intro rfl (And.intro rfl (And.intro rfl (And.intro rfl (And.intro (congrArg (fun l => some (Blk.mk _ l)) hsi) trivial)))))⟩
        · (repeat' (first | (with_reducible first | intro hg | refine mv (by constructor) ?_) | ((with_reducible first | refine zR ?_ ?_ | refine zW mixed ?_ ?_); exact kr) | ((with_reducible apply zK); exact rfl; exact tf) | ((with_reducible apply zCD); exact rfl) | ((with_reducible apply zCN); exact rfl) | ((with_reducible apply zC); exact rfl) | ((with_reducible refine zX ?_ ?_); exact rfl) | ((with_reducible refine zE (And.intro ?_ ?_)); exact kr) | (with_reducible refine zE ?_) | ((with_reducible apply zP); (first | exact o_indexF rg0 (j := i + 1) frC_len (by decide) rfl rfl (by omega) rfl | exact dp)) | ((with_reducible apply zN); exact dn) | ((with_reducible apply zA); (first | ((apply o_app); (case hx => exact rfl); (case hm => exact rfl); (case hy => exact .own rfl rfl); (case hty => exact rfl); (case hl => solve | exact hli | rfl); (case hcl => solve | rfl | exact hli | simp); (case hpos => omega); (case hb => omega); (case hb2 => omega); (case hnew => exact rfl)) | ((apply o_app); (case hx => exact rfl); (case hm => exact rfl); (case hy => exact .sl rfl); (case hty => exact rfl); (case hl => solve | exact hli | rfl); (case hcl => solve | rfl | exact hli | simp); (case hpos => omega); (case hb => omega); (case hb2 => omega); (case hnew => exact rfl)) | exact da)) | ((with_reducible apply zS); exact ds) | ((with_reducible apply zY); exact rfl; exact rfl; exact tf) | ((with_reducible apply zG); exact rfl; exact rfl; exact tf) | ((with_reducible apply zU); exact rfl; exact rfl) | ((with_reducible apply zD); exact rfl; exact rfl) | ((with_reducible apply zB); exact rfl; exact rfl)))
          exact ⟨i + 1 + 1, hil, by omega, (And.intro rfl (And.intro rfl (And.intro rfl (And.intro rfl (And.intro rfl (And.intro rfl (And.intro rfl (And.intro rfl (And.intro rfl trivial))))))))), (And.intro rfl (And.intro rfl (And.intro rfl (And.intro rfl (And.intro (congrArg (fun l => some (Blk.mk _ l)) hsi) trivial)))))⟩
      obtain rfl : i = c.length := by omega
      obtain ⟨m, hm⟩ : ∃ m, c.length = m + 1 := ⟨c.length - 1, by omega⟩
      refine awp_cut [(2, .d (isl dz)), (3, .ptr 3 0), (9, .ptr 9 0), (10, .d (I (bigD dz (k + 1 + 1) : Nat))), (11, .ptr 11 0), (12, .d (I (k + 1 : Nat))), (13, ownS 116 c.length), (14, .d (I c.length)), (PN, linkP b cap 1)] [(3, ⟨24, [rgV c, I den]⟩), (9, ⟨78, ratC G⟩), (11, ⟨28, [.slice c.length (ivs (zer c.length)), linkC b cap (k + 1), isl dz]⟩), (PN, ⟨25, llS (rpl c (k + 1))⟩), (116, ⟨3, ivs (lst (fun i => (c.getD i rg0).1) c.length)⟩)] (And.intro rfl (And.intro rfl (And.intro rfl (And.intro rfl (And.intro rfl (And.intro rfl (And.intro rfl (And.intro rfl (And.intro rfl trivial))))))))) (And.intro rfl (And.intro rfl (And.intro rfl (And.intro rfl (And.intro (by rw [hm]; rfl) trivial))))) ?_
      refine awp_own 13 116 (t := 3) (fun i => (c.getD i rg0).1) rfl (fun k hk => rfl) ?_
      rw [losL_lst]
      clear hm
      (repeat' ((fail_if_success (with_reducible show AWp _ _ (.region 24 _ _) _ _)); (first | (with_reducible first | intro hg | refine mv (by constructor) ?_) | ((with_reducible first | refine zR ?_ ?_ | refine zW mixed ?_ ?_); exact kr) | ((with_reducible apply zK); exact rfl; exact tf) | ((with_reducible apply zCD); exact rfl) | ((with_reducible apply zCN); exact rfl) | ((with_reducible apply zC); exact rfl) | ((with_reducible refine zX ?_ ?_); exact rfl) | ((with_reducible refine zE (And.intro ?_ ?_)); exact kr) | (with_reducible refine zE ?_) | ((with_reducible apply zP); exact dp) | ((with_reducible apply zN); exact dn) | ((with_reducible apply zA); exact da) | ((with_reducible apply zS); exact ds) | ((with_reducible apply zY); exact rfl; exact rfl; exact tf) | ((with_reducible apply zG); exact rfl; exact rfl; exact tf) | ((with_reducible apply zU); exact rfl; exact rfl) | ((with_reducible apply zD); exact rfl; exact rfl) | ((with_reducible apply zB); exact rfl; exact rfl))))
      refine awp_regionL ?_
      ((refine wpl_run (l1 := [_, _, _, _, _]) rfl ?_ ?_); exact kr; (repeat' (first | (with_reducible first | intro hg | refine mv (by constructor) ?_) | ((with_reducible first | refine zR ?_ ?_ | refine zW mixed ?_ ?_); exact kr) | ((with_reducible apply zK); exact rfl; exact tf) | ((with_reducible apply zCD); exact rfl) | ((with_reducible apply zCN); exact rfl) | ((with_reducible apply zC); exact rfl) | ((with_reducible refine zX ?_ ?_); exact rfl) | ((with_reducible refine zE (And.intro ?_ ?_)); exact kr) | (with_reducible refine zE ?_) | ((with_reducible apply zP); (first | exact o_loadLk (L := PN) (sz := 1) rfl rfl rfl rfl (by rfl) (by exact hb1) (by exact hb2) | exact dp)) | ((with_reducible apply zN); exact dn) | ((with_reducible apply zA); (first | ((apply o_app); (case hx => exact rfl); (case hm => exact rfl); (case hy => exact .own rfl rfl); (case hty => exact rfl); (case hl => solve | exact hlC | rfl); (case hcl => solve | rfl | exact hlC | simp); (case hpos => omega); (case hb => omega); (case hb2 => omega); (case hnew => exact rfl)) | ((apply o_app); (case hx => exact rfl); (case hm => exact rfl); (case hy => exact .sl rfl); (case hty => exact rfl); (case hl => solve | exact hlC | rfl); (case hcl => solve | rfl | exact hlC | simp); (case hpos => omega); (case hb => omega); (case hb2 => omega); (case hnew => exact rfl)) | exact da)) | ((with_reducible apply zS); exact ds) | ((with_reducible apply zY); exact rfl; exact rfl; exact tf) | ((with_reducible apply zG); exact rfl; exact rfl; exact tf) | ((with_reducible apply zU); exact rfl; exact rfl) | ((with_reducible apply zD); exact rfl; exact rfl) | ((with_reducible apply zB); exact rfl; exact rfl))))
      refine wpl_turn (turns_pin 121 121 PN (by rfl) (by rfl) (by rfl) (by rfl) (by kernel_rfl)) fun y => ?_
      ((refine wpl_run (l1 := [_, _]) rfl ?_ ?_); exact kr; (repeat' (first | (with_reducible first | intro hg | refine mv (by constructor) ?_) | ((with_reducible first | refine zR ?_ ?_ | refine zW mixed ?_ ?_); exact kr) | ((with_reducible apply zK); exact rfl; exact tf) | ((with_reducible apply zCD); exact rfl) | ((with_reducible apply zCN); exact rfl) | ((with_reducible apply zC); exact rfl) | ((with_reducible refine zX ?_ ?_); exact rfl) | ((with_reducible refine zE (And.intro ?_ ?_)); exact kr) | (with_reducible refine zE ?_) | ((with_reducible apply zP); exact dp) | ((with_reducible apply zN); exact dn) | ((with_reducible apply zA); exact da) | ((with_reducible apply zS); exact ds) | ((with_reducible apply zY); exact rfl; exact rfl; exact tf) | ((with_reducible apply zG); exact rfl; exact rfl; exact tf) | ((with_reducible apply zU); exact rfl; exact rfl) | ((with_reducible apply zD); exact rfl; exact rfl) | ((with_reducible apply zB); exact rfl; exact rfl))))
      refine wpl_nil ?_
      (repeat' (first | (with_reducible first | intro hg | refine mv (by constructor) ?_) | ((with_reducible first | refine zR ?_ ?_ | refine zW mixed ?_ ?_); exact kr) | ((with_reducible apply zK); exact rfl; exact tf) | ((with_reducible apply zCD); exact rfl) | ((with_reducible apply zCN); exact rfl) | ((with_reducible apply zC); exact rfl) | ((with_reducible refine zX ?_ ?_); exact rfl) | ((with_reducible refine zE (And.intro ?_ ?_)); exact kr) | (with_reducible refine zE ?_) | ((with_reducible apply zP); exact dp) | ((with_reducible apply zN); exact dn) | ((with_reducible apply zA); exact da) | ((with_reducible apply zS); exact ds) | ((with_reducible apply zY); exact rfl; exact rfl; exact tf) | ((with_reducible apply zG); exact rfl; exact rfl; exact tf) | ((with_reducible apply zU); exact rfl; exact rfl) | ((with_reducible apply zD); exact rfl; exact rfl) | ((with_reducible apply zB); exact rfl; exact rfl)))
      exact ⟨k + 1 + 1, y.1.1, y.1.2, ⟨⟨hlt, LkJ.of y⟩, hin2⟩, by omega, (And.intro rfl (And.intro rfl (And.intro rfl (And.intro rfl (And.intro rfl (And.intro rfl (And.intro rfl trivial))))))), (And.intro rfl (And.intro rfl (And.intro rfl (And.intro (congrArg (fun l => some (Blk.mk _ l)) hsC) trivial))))⟩
  obtain rfl : k = dz.length := by omega
  refine awp_turn (T := fun (_ : Unit) => ⟨frL [(2, .d (isl dz)), (3, .ptr 3 0), (9, .ptr 9 0), (10, .d (I (bigD dz dz.length : Nat))), (11, .ptr 11 0), (12, .d (I (dz.length : Nat)))], memL [(3, ⟨24, [rgV c, I den]⟩), (9, ⟨78, ratC G⟩), (11, ⟨28, [.slice c.length (ivs (zer c.length)), llV (rpl c dz.length), isl dz]⟩)]⟩) ?_ fun _ => ?_
  · by_cases hT : dz.length = 0
    · refine TurnsE.trans (turns_cut [(2, .d (isl dz)), (3, .ptr 3 0), (9, .ptr 9 0), (10, .d (I (bigD dz dz.length : Nat))), (11, .ptr 11 0), (12, .d (I (dz.length : Nat)))] [(3, ⟨24, [rgV c, I den]⟩), (9, ⟨78, ratC G⟩), (11, ⟨28, [.slice c.length (ivs (zer c.length)), nilV, isl dz]⟩)] (And.intro rfl (And.intro rfl (And.intro rfl (And.intro rfl (And.intro rfl (And.intro (by rw [hT]; rfl) trivial)))))) (And.intro rfl (And.intro rfl (And.intro (by rw [hT]; rfl) trivial)))) fun _ => ?_
      refine TurnsE.trans (turns_recell 11 1 (x := nilV) (y := .slice 0 []) (by rfl) (by rfl) fun _ _ _ h => rep_nilS h) fun _ => ?_
      exact turns_cut _ _ (And.intro rfl (And.intro rfl (And.intro rfl (And.intro rfl (And.intro rfl (And.intro rfl trivial)))))) (And.intro rfl (And.intro rfl (And.intro (by rw [hT]; rfl) trivial)))
    · obtain ⟨m, hm⟩ : ∃ m, dz.length = m + 1 := ⟨dz.length - 1, by omega⟩
      obtain ⟨hb1, hb2⟩ := hb.resolve_left (by omega)
      refine TurnsE.trans (turns_cut [(2, .d (isl dz)), (3, .ptr 3 0), (9, .ptr 9 0), (10, .d (I (bigD dz dz.length : Nat))), (11, .ptr 11 0), (12, .d (I (dz.length : Nat))), (PN, linkP b cap 1)] [(3, ⟨24, [rgV c, I den]⟩), (9, ⟨78, ratC G⟩), (11, ⟨28, [.slice c.length (ivs (zer c.length)), linkC b cap dz.length, isl dz]⟩), (PN, ⟨25, llS (rpl c dz.length)⟩)] (And.intro rfl (And.intro rfl (And.intro rfl (And.intro rfl (And.intro rfl (And.intro rfl (And.intro (by rw [hm]; rfl) trivial))))))) (And.intro rfl (And.intro rfl (And.intro (by rw [hm]; rfl) (And.intro (by rw [hm]; rfl) trivial))))) fun _ => ?_
      refine TurnsE.trans (turns_unlink 11 1 PN (by rfl) (by rfl) (by rfl) (by rfl) (by rfl) (by decide) hb1 hb2) fun _ => ?_
      have e2 := rpl_sl c dz.length
      exact turns_cut _ _ (And.intro rfl (And.intro rfl (And.intro rfl (And.intro rfl (And.intro rfl (And.intro rfl trivial)))))) (And.intro rfl (And.intro rfl (And.intro (congrArg (fun v => some (Blk.mk 28 [.slice c.length (ivs (zer c.length)), v, isl dz])) e2) trivial)))
  have hin' : ∀ t, t < dz.length → (nth dz t).natAbs ≤ 100 := fun t ht => by
    have k1 := inR_true.1 (hin t ht)
    omega
  clear hb hk hlt hin
  have r := runOf_ok c den (zer c.length) (rpl c dz.length) dz (rnE_los g2 zer_sx g6 hin')
  have hst : DV.slice c.length (ivs (zer c.length)) = isl (zer c.length) := by
    show _ = DV.slice (zer c.length).length _
    rw [lst_length]
  have hmb : bigD dz dz.length ≤ 100 := bigD_bnd hin'
  have hrun := hrun dz.length (bigD dz dz.length) fun k hk => bigD_le dz hk
  have wsv := responseOf_ok c den g2 g3 8 (by decide)
  have q1 := rnV_cases den (rpl c dz.length) dz (zer c.length)
  have hrl : (rpl c dz.length).length = dz.length := List.length_replicate ..
  generalize bigD dz dz.length = M at *
  generalize rpl c dz.length = rs at *
  have r : AC Tryz.prog 15 [loV c den, .agg [DV.slice c.length (ivs (zer c.length)), llV rs, isl dz]] (.tuple [frV (rnV den rs dz (zer c.length)).1, I (rnV den rs dz (zer c.length)).2]) := by
    rw [hst]; exact r
  clear hst
  rcases q1 with ⟨q1, s1⟩ | q1
  rotate_left
  focus
    rw [q1] at r
    dsimp only at r
    clear hrun hin'
    (repeat' ((fail_if_success (with_reducible show AWp _ _ (.region 34 _ _) _ _)); (first | (with_reducible first | intro hg | refine mv (by constructor) ?_) | ((with_reducible first | refine zR ?_ ?_ | refine zW mixed ?_ ?_); exact kr) | ((with_reducible apply zK); exact rfl; exact tf) | ((with_reducible apply zCD); exact rfl) | ((with_reducible apply zCN); exact rfl) | ((with_reducible apply zC); exact rfl) | ((with_reducible refine zX ?_ ?_); exact rfl) | ((with_reducible refine zE (And.intro ?_ ?_)); exact kr) | (with_reducible refine zE ?_) | ((with_reducible apply zP); (first | exact dp | exact oc rfl (wcp) | exact oc rfl (r))) | ((with_reducible apply zN); exact dn) | ((with_reducible apply zA); exact da) | ((with_reducible apply zS); exact ds) | ((with_reducible apply zY); exact rfl; exact rfl; exact tf) | ((with_reducible apply zG); exact rfl; exact rfl; exact tf) | ((with_reducible apply zU); exact rfl; exact rfl) | ((with_reducible apply zD); exact rfl; exact rfl) | ((with_reducible apply zB); exact rfl; exact rfl))))
    refine awp_cut [(3, .ptr 3 0), (9, .ptr 9 0)] [(3, ⟨24, [rgV c, I den]⟩), (9, ⟨78, ratC G⟩)] (And.intro rfl (And.intro rfl trivial)) (And.intro rfl (And.intro rfl trivial)) ?_
  rotate_left
  focus
    rw [q1] at r
    dsimp only at r
    have a1 : (outF den rs dz (zer c.length) rs.length).length = dz.length := (outF_len ..).trans hrl
    have n1 : ∀ t, t < dz.length → (outF den rs dz (zer c.length) rs.length).getD t rg0 = qF (vlt den rs dz (zer c.length) t) := fun t ht => outF_get (by omega)
    clear q1
    generalize outF den rs dz (zer c.length) rs.length = A at *
    clear hin' wsv
    (repeat' (first | (with_reducible first | intro hg | refine mv (by constructor) ?_) | ((with_reducible first | refine zR ?_ ?_ | refine zW mixed ?_ ?_); exact kr) | ((with_reducible apply zK); exact rfl; exact tf) | ((with_reducible apply zCD); exact rfl) | ((with_reducible apply zCN); exact rfl) | ((with_reducible apply zC); exact rfl) | ((with_reducible refine zX ?_ ?_); exact rfl) | ((with_reducible refine zE (And.intro ?_ ?_)); exact kr) | (with_reducible refine zE ?_) | ((with_reducible apply zP); (first | exact dp | exact oc rfl (wcp) | exact oc rfl (r))) | ((with_reducible apply zN); exact dn) | ((with_reducible apply zA); exact da) | ((with_reducible apply zS); exact ds) | ((with_reducible apply zY); exact rfl; exact rfl; exact tf) | ((with_reducible apply zG); exact rfl; exact rfl; exact tf) | ((with_reducible apply zU); exact rfl; exact rfl) | ((with_reducible apply zD); exact rfl; exact rfl) | ((with_reducible apply zB); exact rfl; exact rfl)))
    refine awp_loopL (α := Nat) (fun t => [(3, .ptr 3 0), (9, .ptr 9 0), (10, .d (I (M : Nat))), (15, .d (frV A)), (16, .d (I 0)), (17, .d (I t))]) (fun _ => [(3, ⟨24, [rgV c, I den]⟩), (9, ⟨78, ratC G⟩)]) (fun t => t ≤ dz.length) (fun t => dz.length - t) 0 (Nat.zero_le _) (And.intro rfl (And.intro rfl (And.intro rfl (And.intro rfl (And.intro rfl (And.intro rfl trivial)))))) (And.intro rfl (And.intro rfl trivial)) fun t ht => ?_
    by_cases htl : t < dz.length
    · have p1 := s1 t (by omega)
      have u1 := gsmall_q _ p1
      have u2 : AC Tryz.prog 45 [I (qF (vlt den rs dz (zer c.length) t)).1] (I ((vlt den rs dz (zer c.length) t).num.natAbs : Int)) := sizeN_q _ p1
      have u3 : AC Tryz.prog 47 [I ((vlt den rs dz (zer c.length) t).num.natAbs : Int), I (qF (vlt den rs dz (zer c.length) t)).2] (ratV (absR (vlt den rs dz (zer c.length) t))) := ofSize_q _ p1
      have u4 := ratioInt_A ((M : Nat) : Int) ⟨by omega, by omega⟩
      have hMS : RatS 3 (((M : Nat) : Int) : Rat) := int_ratS (by omega)
      have u5 := ratioMul_A ((smQ_S hG).mono (by decide)) (hMS.mono (by decide))
      have u6 := ratioCmp_A ((absR_S (smQ_S p1)).mono (by decide)) (((smQ_S hG).mul hMS).mono (by decide))
      have hle := cmpR_le (hrun t htl)
      rw [← n1 t htl] at u1 u2 u3
      clear n1 p1 s1 hrun r wcp hMS
      generalize vlt den rs dz (zer c.length) t = v at *
      generalize cmpR (absR v) (G * (((M : Nat) : Int) : Rat)) = z at *
      (repeat' (first | (with_reducible first | intro hg | refine mv (by constructor) ?_) | ((with_reducible first | refine zR ?_ ?_ | refine zW mixed ?_ ?_); exact kr) | ((with_reducible apply zK); exact rfl; exact tf) | ((with_reducible apply zCD); exact rfl) | ((with_reducible apply zCN); exact rfl) | ((with_reducible apply zC); exact rfl) | ((with_reducible refine zX ?_ ?_); exact rfl) | ((with_reducible refine zE (And.intro ?_ ?_)); exact kr) | (with_reducible refine zE ?_) | ((with_reducible apply zP); (first | exact o_indexF rg0 frC_len (by decide) rfl rfl (by omega) rfl | exact dp | exact oc rfl (u1) | exact oc rfl (u2) | exact oc rfl (u3) | exact oc rfl (u4) | exact oc rfl (u5) | exact oc rfl (u6))) | ((with_reducible apply zN); exact dn) | ((with_reducible apply zA); exact da) | ((with_reducible apply zS); exact ds) | ((with_reducible apply zY); exact rfl; exact rfl; exact tf) | ((with_reducible apply zG); exact rfl; exact rfl; exact tf) | ((with_reducible apply zU); exact rfl; exact rfl) | ((with_reducible apply zD); exact rfl; exact rfl) | ((with_reducible apply zB); exact rfl; exact rfl)))
      exact ⟨t + 1, htl, by omega, (And.intro rfl (And.intro rfl (And.intro rfl (And.intro rfl (And.intro rfl (And.intro rfl trivial)))))), (And.intro rfl (And.intro rfl trivial))⟩
    clear n1 s1 hrun r
    (repeat' ((fail_if_success (with_reducible show AWp _ _ (.region 34 _ _) _ _)); (first | (with_reducible first | intro hg | refine mv (by constructor) ?_) | ((with_reducible first | refine zR ?_ ?_ | refine zW mixed ?_ ?_); exact kr) | ((with_reducible apply zK); exact rfl; exact tf) | ((with_reducible apply zCD); exact rfl) | ((with_reducible apply zCN); exact rfl) | ((with_reducible apply zC); exact rfl) | ((with_reducible refine zX ?_ ?_); exact rfl) | ((with_reducible refine zE (And.intro ?_ ?_)); exact kr) | (with_reducible refine zE ?_) | ((with_reducible apply zP); exact dp) | ((with_reducible apply zN); exact dn) | ((with_reducible apply zA); exact da) | ((with_reducible apply zS); exact ds) | ((with_reducible apply zY); exact rfl; exact rfl; exact tf) | ((with_reducible apply zG); exact rfl; exact rfl; exact tf) | ((with_reducible apply zU); exact rfl; exact rfl) | ((with_reducible apply zD); exact rfl; exact rfl) | ((with_reducible apply zB); exact rfl; exact rfl))))
    refine awp_cut [(3, .ptr 3 0), (9, .ptr 9 0)] [(3, ⟨24, [rgV c, I den]⟩), (9, ⟨78, ratC G⟩)] (And.intro rfl (And.intro rfl trivial)) (And.intro rfl (And.intro rfl trivial)) ?_
  all_goals
    have wsv := responseOf_ok c den g2 g3 8 (by decide)
    rcases rsV_cases c den 8 with ⟨k1, k2⟩ | k1
    rotate_left
    · rw [k1] at wsv
      dsimp only at wsv
      (repeat' (first | (with_reducible first | intro hg | refine mv (by constructor) ?_) | ((with_reducible first | refine zR ?_ ?_ | refine zW mixed ?_ ?_); exact kr) | ((with_reducible apply zK); exact rfl; exact tf) | ((with_reducible apply zCD); exact rfl) | ((with_reducible apply zCN); exact rfl) | ((with_reducible apply zC); exact rfl) | ((with_reducible refine zX ?_ ?_); exact rfl) | ((with_reducible refine zE (And.intro ?_ ?_)); exact kr) | (with_reducible refine zE ?_) | ((with_reducible apply zP); (first | exact dp | exact oc rfl (wcp) | exact oc rfl (wsv))) | ((with_reducible apply zN); exact dn) | ((with_reducible apply zA); exact da) | ((with_reducible apply zS); exact ds) | ((with_reducible apply zY); exact rfl; exact rfl; exact tf) | ((with_reducible apply zG); exact rfl; exact rfl; exact tf) | ((with_reducible apply zU); exact rfl; exact rfl) | ((with_reducible apply zD); exact rfl; exact rfl) | ((with_reducible apply zB); exact rfl; exact rfl)))
      ((with_reducible first | apply q_retR | apply q_retN); exact rl)
      rfl
    rw [k1] at wsv
    dsimp only at wsv
    have hH : ((1, 1) :: (List.range 8).map (fun t => qF (rsp den (losL c) (t + 1)))).length = 9 := rfl
    have nH : ∀ t, t < 9 → ((1, 1) :: (List.range 8).map (fun t => qF (rsp den (losL c) (t + 1)))).getD t rg0 = qF (rsp den (losL c) t) := fun t ht => rsH_get (by omega)
    have hgr := cmpR_le (hgr9)
    have hSS : ∀ t, t ≤ 9 → RatS 10000 (sumQ (fun t => absR (rsp den (losL c) t)) t) := fun t ht => (sum_S fun k hk => absR_S (smQ_S (k2 k (by omega)))).mono (kR_le ht)
    have u9 := ratioCmp_A (hSS 9 (by decide)) ((smQ_S hG).mono (by decide))
    have wz0 := ratioInt_A 0 ⟨by decide, by decide⟩
    clear k1
    generalize (1, 1) :: (List.range 8).map (fun t => qF (rsp den (losL c) (t + 1))) = H at *
    (repeat' (first | (with_reducible first | intro hg | refine mv (by constructor) ?_) | ((with_reducible first | refine zR ?_ ?_ | refine zW mixed ?_ ?_); exact kr) | ((with_reducible apply zK); exact rfl; exact tf) | ((with_reducible apply zCD); exact rfl) | ((with_reducible apply zCN); exact rfl) | ((with_reducible apply zC); exact rfl) | ((with_reducible refine zX ?_ ?_); exact rfl) | ((with_reducible refine zE (And.intro ?_ ?_)); exact kr) | (with_reducible refine zE ?_) | ((with_reducible apply zP); (first | exact dp | exact oc rfl (wcp) | exact oc rfl (wsv) | exact oc rfl (wz0))) | ((with_reducible apply zN); exact dn) | ((with_reducible apply zA); exact da) | ((with_reducible apply zS); exact ds) | ((with_reducible apply zY); exact rfl; exact rfl; exact tf) | ((with_reducible apply zG); exact rfl; exact rfl; exact tf) | ((with_reducible apply zU); exact rfl; exact rfl) | ((with_reducible apply zD); exact rfl; exact rfl) | ((with_reducible apply zB); exact rfl; exact rfl)))
    refine awp_loopL (α := Nat) (fun t => [(9, .ptr 9 0), (18, .d (frV H)), (20, .ptr 20 0), (21, .d (I t))]) (fun t => [(9, ⟨78, ratC G⟩), (20, ⟨78, ratC (sumQ (fun t => absR (rsp den (losL c) t)) t)⟩)]) (fun t => t ≤ 9) (fun t => 9 - t) 0 (Nat.zero_le _) (And.intro rfl (And.intro rfl (And.intro rfl (And.intro rfl trivial)))) (And.intro rfl (And.intro rfl trivial)) fun t ht => ?_
    by_cases htl : t < 9
    · have p1 := k2 t (by omega)
      have u1 := gsmall_q _ p1
      have u2 : AC Tryz.prog 45 [I (qF (rsp den (losL c) t)).1] (I ((rsp den (losL c) t).num.natAbs : Int)) := sizeN_q _ p1
      have u3 : AC Tryz.prog 47 [I ((rsp den (losL c) t).num.natAbs : Int), I (qF (rsp den (losL c) t)).2] (ratV (absR (rsp den (losL c) t))) := ofSize_q _ p1
      have u4 := ratioAdd_A (hSS t ht) ((absR_S (smQ_S p1)).mono (by decide))
      have hsu : sumQ (fun t => absR (rsp den (losL c) t)) (t + 1) = sumQ (fun t => absR (rsp den (losL c) t)) t + absR (rsp den (losL c) t) := rfl
      rw [← hsu] at u4
      rw [← nH t htl] at u1 u2 u3
      clear nH k2 p1 hSS u9 hgr wsv wcp wz0 hsu
      generalize absR (rsp den (losL c) t) = v at *
      generalize rsp den (losL c) t = v2 at *
      (repeat' (first | (with_reducible first | intro hg | refine mv (by constructor) ?_) | ((with_reducible first | refine zR ?_ ?_ | refine zW mixed ?_ ?_); exact kr) | ((with_reducible apply zK); exact rfl; exact tf) | ((with_reducible apply zCD); exact rfl) | ((with_reducible apply zCN); exact rfl) | ((with_reducible apply zC); exact rfl) | ((with_reducible refine zX ?_ ?_); exact rfl) | ((with_reducible refine zE (And.intro ?_ ?_)); exact kr) | (with_reducible refine zE ?_) | ((with_reducible apply zP); (first | exact o_indexF rg0 frC_len (by decide) rfl rfl (by omega) rfl | exact dp | exact oc rfl (u1) | exact oc rfl (u2) | exact oc rfl (u3) | exact oc rfl (u4))) | ((with_reducible apply zN); exact dn) | ((with_reducible apply zA); exact da) | ((with_reducible apply zS); exact ds) | ((with_reducible apply zY); exact rfl; exact rfl; exact tf) | ((with_reducible apply zG); exact rfl; exact rfl; exact tf) | ((with_reducible apply zU); exact rfl; exact rfl) | ((with_reducible apply zD); exact rfl; exact rfl) | ((with_reducible apply zB); exact rfl; exact rfl)))
      exact ⟨t + 1, htl, by omega, (And.intro rfl (And.intro rfl (And.intro rfl (And.intro rfl trivial)))), (And.intro rfl (And.intro rfl trivial))⟩
    obtain rfl : t = 9 := by omega
    clear nH k2 hSS wsv wcp wz0
    generalize sumQ (fun t => absR (rsp den (losL c) t)) 9 = X at *
    generalize cmpR X G = z at *
    (repeat' (first | (with_reducible first | intro hg | refine mv (by constructor) ?_) | ((with_reducible first | refine zR ?_ ?_ | refine zW mixed ?_ ?_); exact kr) | ((with_reducible apply zK); exact rfl; exact tf) | ((with_reducible apply zCD); exact rfl) | ((with_reducible apply zCN); exact rfl) | ((with_reducible apply zC); exact rfl) | ((with_reducible refine zX ?_ ?_); exact rfl) | ((with_reducible refine zE (And.intro ?_ ?_)); exact kr) | (with_reducible refine zE ?_) | ((with_reducible apply zP); (first | exact dp | exact oc rfl (u9))) | ((with_reducible apply zN); exact dn) | ((with_reducible apply zA); exact da) | ((with_reducible apply zS); exact ds) | ((with_reducible apply zY); exact rfl; exact rfl; exact tf) | ((with_reducible apply zG); exact rfl; exact rfl; exact tf) | ((with_reducible apply zU); exact rfl; exact rfl) | ((with_reducible apply zD); exact rfl; exact rfl) | ((with_reducible apply zB); exact rfl; exact rfl)))
    ((with_reducible first | apply q_retR | apply q_retN); exact rl)
    exact rt_bool (decide_eq_true hgr).symm

end Go.Proofs.YtiabcffcbhlbiaaGreat
