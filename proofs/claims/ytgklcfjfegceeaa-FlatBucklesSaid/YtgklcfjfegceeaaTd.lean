/- The law FlatBuckles: what it answers. -/
import Derived.Test.YtgklcfjfegceeaaTc
set_option linter.unusedVariables false
set_option linter.unusedSimpArgs false
namespace Go.Proofs.Ytgklcfjfegceeaa
open Go.RowKit
set_option maxRecDepth 20000
set_option maxHeartbeats 8000000

theorem okR_iff {x : Int × Int} : okR x = true ↔ (0 ≤ x.1 ∧ x.1 ≤ 10000) ∧ 0 ≤ x.2 ∧ x.2 ≤ 10000 := by
  unfold okR; rw [Bool.and_eq_true, inR_iff, inR_iff]
theorem lawE_ok {e c : Int × Int} (h : lawE e c = 0) : okR e = true ∧ okR c = true ∧ e.1 ≤ e.2 ∧ c.1 ≤ c.2 := by
  obtain ⟨h1, h⟩ := fst0_cons h
  obtain ⟨h2, _⟩ := fst0_cons h
  have h1 := unl_ok (by decide) h1
  have h2 := unl_ok (by decide) h2
  have h1 : okR e = true ∧ okR c = true := by simpa using h1
  have h2 : e.1 ≤ e.2 ∧ c.1 ≤ c.2 := by simpa using h2
  exact ⟨h1.1, h1.2, h2.1, h2.2⟩
theorem lawE_0 {e c : Int × Int} (h1 : okR e = true) (h2 : okR c = true) (h3 : e.1 ≤ e.2) (h4 : c.1 ≤ c.2) : lawE e c = 0 := by
  unfold lawE
  rw [fst0_skip (by simp [h1, h2]), fst0_skip (by simp [h3, h4])]; rfl
/-- A wider limit makes no answer surer. -/
theorem ans_wide {l w f : Int × Int} (hd : 0 < f.2) (h1 : w.1 ≤ l.1) (h2 : l.2 ≤ w.2) (h3 : l.1 ≤ l.2) : ansF w f = ansF l f ∨ ansF w f = 1 := by
  have p1 := Int.mul_le_mul_of_nonneg_right h1 (Int.le_of_lt hd)
  have p2 := Int.mul_le_mul_of_nonneg_right h2 (Int.le_of_lt hd)
  have p3 := Int.mul_le_mul_of_nonneg_right h3 (Int.le_of_lt hd)
  unfold ansF
  by_cases a1 : w.2 * f.2 < 1000000 * f.1
  · rw [decide_eq_true a1, decide_eq_true (by omega : l.2 * f.2 < 1000000 * f.1)]; exact .inl rfl
  · rw [decide_eq_false a1]
    by_cases a2 : 1000000 * f.1 ≤ w.1 * f.2
    · rw [decide_eq_true a2, decide_eq_false (by omega : ¬ l.2 * f.2 < 1000000 * f.1), decide_eq_true (by omega : 1000000 * f.1 ≤ l.1 * f.2)]; exact .inl rfl
    · rw [decide_eq_false a2]; exact .inr rfl
theorem flatBuckles_A (e c : Int × Int) (L : List (Int × Int)) (hm : L.length ≤ 140737488355328) (hF : ∀ f ∈ L, FrF f) : AC Try.prog 12 [lawV e c, frS L] (B true) := by
  have aw := awake_A
  by_cases hl : (L.length : Int) ≤ 12
  rotate_left
  · refine ac_body Try.func12 rfl (by kernel_rfl) fun w0 ok => ?_; show AWp _ (ctx0 w0 ok _) _ (ARet _ _ _) (entry _)
    (repeat' (first | (with_reducible first | intro hg | refine awp_seq ?_ | refine q_seq ?_ | refine q_blk ?_ | refine awp_block ?_ | refine awp_skip ?_ | refine awp_ret ?_ | refine awp_exit ?_ | refine q_seqE ?_ | refine q_seqR ?_ | refine q_blkR ?_ | refine q_blkE ?_) | ((with_reducible refine awp_region ?_ ?_); (focus exact kr)) | ((with_reducible refine awp_region_any mixed ?_ ?_); (focus exact kr)) | ((with_reducible apply awp_condT); (focus exact rfl); (focus exact tt)) | ((with_reducible apply awp_condF); (focus exact rfl); (focus exact ff)) | ((with_reducible apply awp_condD); (focus exact rfl)) | ((with_reducible apply awp_condN); (focus exact rfl)) | ((with_reducible apply awp_cond); (focus exact rfl)) | ((with_reducible refine q_blkX ?_ ?_); (focus exact rfl)) | ((with_reducible refine r_nil (And.intro ?_ ?_)); (focus exact kr)) | (with_reducible refine r_nil ?_) | ((with_reducible apply r_put); (focus (first | exact dp | exact oc rfl (aw)))) | ((with_reducible apply r_new); (focus exact dn)) | ((with_reducible apply r_app); (focus exact da)) | ((with_reducible apply r_set); (focus exact ds)) | ((with_reducible apply r_putY); (focus exact rfl); (focus exact rfl); (focus exact tf); (focus (first | exact dp | exact oc rfl (aw)))) | ((with_reducible apply r_newY); (focus exact rfl); (focus exact rfl); (focus exact tf); (focus exact dn)) | ((with_reducible apply r_noT); (focus exact rfl); (focus exact rfl); (focus exact ff)) | ((with_reducible apply r_noF); (focus exact rfl); (focus exact rfl); (focus exact tt)) | ((with_reducible apply r_noU); (focus exact rfl); (focus exact rfl)) | ((with_reducible apply r_splitD); (focus exact rfl); (focus exact rfl)) | ((with_reducible apply r_split); (focus exact rfl); (focus exact rfl))))
    ((with_reducible first | apply q_retR | apply q_retN); (focus exact rl))
    rfl
  have hcp := copyFracs_A L (by omega)
  have r1 := refLawErr_A e c
  have r2 := refChangesErr_A L hm hF
  have hlw := lwE_eq e c L
  by_cases e1 : lawE e c = 0
  rotate_left
  · rw [show (lawE e c == 0) = false from beq_eq_false_iff_ne.2 e1] at hlw
    replace hlw : lwE e c L = lawE e c := hlw
    have h1 := bucklesOf_err e c L hm (by rw [hlw]; exact e1)
    rw [hlw] at h1
    refine ac_body Try.func12 rfl (by kernel_rfl) fun w0 ok => ?_; show AWp _ (ctx0 w0 ok _) _ (ARet _ _ _) (entry _)
    (repeat' (first | (with_reducible first | intro hg | refine awp_seq ?_ | refine q_seq ?_ | refine q_blk ?_ | refine awp_block ?_ | refine awp_skip ?_ | refine awp_ret ?_ | refine awp_exit ?_ | refine q_seqE ?_ | refine q_seqR ?_ | refine q_blkR ?_ | refine q_blkE ?_) | ((with_reducible refine awp_region ?_ ?_); (focus exact kr)) | ((with_reducible refine awp_region_any mixed ?_ ?_); (focus exact kr)) | ((with_reducible apply awp_condT); (focus exact rfl); (focus exact tt)) | ((with_reducible apply awp_condF); (focus exact rfl); (focus exact ff)) | ((with_reducible apply awp_condD); (focus exact rfl)) | ((with_reducible apply awp_condN); (focus exact rfl)) | ((with_reducible apply awp_cond); (focus exact rfl)) | ((with_reducible refine q_blkX ?_ ?_); (focus exact rfl)) | ((with_reducible refine r_nil (And.intro ?_ ?_)); (focus exact kr)) | (with_reducible refine r_nil ?_) | ((with_reducible apply r_put); (focus (first | exact dp | exact oc rfl (aw) | exact oc rfl (hcp) | exact oc rfl (r1) | exact oc rfl (h1)))) | ((with_reducible apply r_new); (focus exact dn)) | ((with_reducible apply r_app); (focus exact da)) | ((with_reducible apply r_set); (focus exact ds)) | ((with_reducible apply r_putY); (focus exact rfl); (focus exact rfl); (focus exact tf); (focus (first | exact dp | exact oc rfl (aw) | exact oc rfl (hcp) | exact oc rfl (r1) | exact oc rfl (h1)))) | ((with_reducible apply r_newY); (focus exact rfl); (focus exact rfl); (focus exact tf); (focus exact dn)) | ((with_reducible apply r_noT); (focus exact rfl); (focus exact rfl); (focus exact ff)) | ((with_reducible apply r_noF); (focus exact rfl); (focus exact rfl); (focus exact tt)) | ((with_reducible apply r_noU); (focus exact rfl); (focus exact rfl)) | ((with_reducible apply r_splitD); (focus exact rfl); (focus exact rfl)) | ((with_reducible apply r_split); (focus exact rfl); (focus exact rfl))))
    ((with_reducible first | apply q_retR | apply q_retN); (focus exact rl))
    rfl
  rw [e1] at hlw r1
  replace hlw : lwE e c L = cntE L := hlw
  by_cases e2 : cntE L = 0
  rotate_left
  · have hch : chsE L = cntE L := by unfold chsE; rw [show (cntE L == 0) = false from beq_eq_false_iff_ne.2 e2]; rfl
    have h1 := bucklesOf_err e c L hm (by rw [hlw]; exact e2)
    rw [hlw] at h1
    rw [hch] at r2
    refine ac_body Try.func12 rfl (by kernel_rfl) fun w0 ok => ?_; show AWp _ (ctx0 w0 ok _) _ (ARet _ _ _) (entry _)
    (repeat' (first | (with_reducible first | intro hg | refine awp_seq ?_ | refine q_seq ?_ | refine q_blk ?_ | refine awp_block ?_ | refine awp_skip ?_ | refine awp_ret ?_ | refine awp_exit ?_ | refine q_seqE ?_ | refine q_seqR ?_ | refine q_blkR ?_ | refine q_blkE ?_) | ((with_reducible refine awp_region ?_ ?_); (focus exact kr)) | ((with_reducible refine awp_region_any mixed ?_ ?_); (focus exact kr)) | ((with_reducible apply awp_condT); (focus exact rfl); (focus exact tt)) | ((with_reducible apply awp_condF); (focus exact rfl); (focus exact ff)) | ((with_reducible apply awp_condD); (focus exact rfl)) | ((with_reducible apply awp_condN); (focus exact rfl)) | ((with_reducible apply awp_cond); (focus exact rfl)) | ((with_reducible refine q_blkX ?_ ?_); (focus exact rfl)) | ((with_reducible refine r_nil (And.intro ?_ ?_)); (focus exact kr)) | (with_reducible refine r_nil ?_) | ((with_reducible apply r_put); (focus (first | exact dp | exact oc rfl (aw) | exact oc rfl (hcp) | exact oc rfl (r1) | exact oc rfl (r2) | exact oc rfl (h1)))) | ((with_reducible apply r_new); (focus exact dn)) | ((with_reducible apply r_app); (focus exact da)) | ((with_reducible apply r_set); (focus exact ds)) | ((with_reducible apply r_putY); (focus exact rfl); (focus exact rfl); (focus exact tf); (focus (first | exact dp | exact oc rfl (aw) | exact oc rfl (hcp) | exact oc rfl (r1) | exact oc rfl (r2) | exact oc rfl (h1)))) | ((with_reducible apply r_newY); (focus exact rfl); (focus exact rfl); (focus exact tf); (focus exact dn)) | ((with_reducible apply r_noT); (focus exact rfl); (focus exact rfl); (focus exact ff)) | ((with_reducible apply r_noF); (focus exact rfl); (focus exact rfl); (focus exact tt)) | ((with_reducible apply r_noU); (focus exact rfl); (focus exact rfl)) | ((with_reducible apply r_splitD); (focus exact rfl); (focus exact rfl)) | ((with_reducible apply r_split); (focus exact rfl); (focus exact rfl))))
    ((with_reducible first | apply q_retR | apply q_retN); (focus exact rl))
    rfl
  have hch : chsE L = chgE L := by unfold chsE; rw [e2]; rfl
  rw [hch] at r2
  have h1 := bucklesOf_A e c L hF (by rw [hlw]; exact e2)
  by_cases e3 : chgE L = 0
  rotate_left
  · rw [show (chgE L == 0) = false from beq_eq_false_iff_ne.2 e3] at h1
    refine ac_body Try.func12 rfl (by kernel_rfl) fun w0 ok => ?_; show AWp _ (ctx0 w0 ok _) _ (ARet _ _ _) (entry _)
    (repeat' (first | (with_reducible first | intro hg | refine awp_seq ?_ | refine q_seq ?_ | refine q_blk ?_ | refine awp_block ?_ | refine awp_skip ?_ | refine awp_ret ?_ | refine awp_exit ?_ | refine q_seqE ?_ | refine q_seqR ?_ | refine q_blkR ?_ | refine q_blkE ?_) | ((with_reducible refine awp_region ?_ ?_); (focus exact kr)) | ((with_reducible refine awp_region_any mixed ?_ ?_); (focus exact kr)) | ((with_reducible apply awp_condT); (focus exact rfl); (focus exact tt)) | ((with_reducible apply awp_condF); (focus exact rfl); (focus exact ff)) | ((with_reducible apply awp_condD); (focus exact rfl)) | ((with_reducible apply awp_condN); (focus exact rfl)) | ((with_reducible apply awp_cond); (focus exact rfl)) | ((with_reducible refine q_blkX ?_ ?_); (focus exact rfl)) | ((with_reducible refine r_nil (And.intro ?_ ?_)); (focus exact kr)) | (with_reducible refine r_nil ?_) | ((with_reducible apply r_put); (focus (first | exact dp | exact oc rfl (aw) | exact oc rfl (hcp) | exact oc rfl (r1) | exact oc rfl (r2) | exact oc rfl (h1)))) | ((with_reducible apply r_new); (focus exact dn)) | ((with_reducible apply r_app); (focus exact da)) | ((with_reducible apply r_set); (focus exact ds)) | ((with_reducible apply r_putY); (focus exact rfl); (focus exact rfl); (focus exact tf); (focus (first | exact dp | exact oc rfl (aw) | exact oc rfl (hcp) | exact oc rfl (r1) | exact oc rfl (r2) | exact oc rfl (h1)))) | ((with_reducible apply r_newY); (focus exact rfl); (focus exact rfl); (focus exact tf); (focus exact dn)) | ((with_reducible apply r_noT); (focus exact rfl); (focus exact rfl); (focus exact ff)) | ((with_reducible apply r_noF); (focus exact rfl); (focus exact rfl); (focus exact tt)) | ((with_reducible apply r_noU); (focus exact rfl); (focus exact rfl)) | ((with_reducible apply r_splitD); (focus exact rfl); (focus exact rfl)) | ((with_reducible apply r_split); (focus exact rfl); (focus exact rfl))))
    ((with_reducible first | apply q_retR | apply q_retN); (focus exact rl))
    rfl
  rw [e3] at h1 r2
  obtain ⟨ge, gc, go, gp⟩ := lawE_ok e1
  obtain ⟨⟨ie1, ie2⟩, ie3, ie4⟩ := okR_iff.1 ge
  obtain ⟨⟨ic1, ic2⟩, ic3, ic4⟩ := okR_iff.1 gc
  have hL3 : 3 ≤ L.length ∧ L.length ≤ 9 := by
    obtain ⟨q1, q⟩ := fst0_cons e2
    obtain ⟨q2, _⟩ := fst0_cons q
    have q1 := of_decide_eq_true (unl_ok (by decide) q1)
    have q2 := of_decide_eq_true (unl_ok (by decide) q2)
    omega
  have hok : ChOk L := ⟨hL3.1, hL3.2, fun f hf => by
    obtain ⟨q1, q2⟩ := cE_ok (chgE_ok e3 f hf)
    exact smF_bnd q1 q2⟩
  have h2 := refBuckles_A e c L ge gc hok
  have w1 : lawE (e.1 / 2, 10000) (0, c.2) = 0 := lawE_0 (okR_iff.2 ⟨⟨by show 0 ≤ e.1 / 2; omega, by show e.1 / 2 ≤ 10000; omega⟩, by show (0 : Int) ≤ 10000; omega, by show (10000 : Int) ≤ 10000; omega⟩) (okR_iff.2 ⟨⟨by show (0 : Int) ≤ 0; omega, by show (0 : Int) ≤ 10000; omega⟩, ic3, ic4⟩) (by show e.1 / 2 ≤ 10000; omega) ic3
  have h3 := bucklesOf_A (e.1 / 2, 10000) (0, c.2) L hF (by rw [lwE_eq, w1]; exact e2)
  rw [e3] at h3
  have lA := lst_length (bkF e c L) L.length
  have lB := lst_length (bkF (e.1 / 2, 10000) (0, c.2) L) L.length
  have hw : ∀ k, k < L.length → nth (lst (bkF (e.1 / 2, 10000) (0, c.2) L) L.length) k = nth (lst (bkF e c L) L.length) k ∨ nth (lst (bkF (e.1 / 2, 10000) (0, c.2) L) L.length) k = 1 := fun k hk => by
    rw [lst_nth _ hk, lst_nth _ hk]
    unfold bkF limF
    have hd := (hok.2.2 _ (getF_mem hk)).2.1
    cases decide (k = 0 ∨ k + 1 = L.length)
    · exact ans_wide hd (by show (0 : Int) ≤ c.1; omega) (Int.le_refl _) gp
    · exact ans_wide hd (by show e.1 / 2 ≤ e.1; omega) (by show e.2 ≤ 10000; omega) go
  have hin := ints_A (lst (bkF e c L) L.length) (lst (bkF e c L) L.length) (by omega) (by omega)
  rw [decide_eq_true rfl] at hin
  generalize lst (bkF e c L) L.length = X at *
  generalize lst (bkF (e.1 / 2, 10000) (0, c.2) L) L.length = Y at *
  refine ac_body Try.func12 rfl (by kernel_rfl) fun w0 ok => ?_; show AWp _ (ctx0 w0 ok _) _ (ARet _ _ _) (entry _)
  (repeat' (first | (with_reducible first | intro hg | refine awp_seq ?_ | refine q_seq ?_ | refine q_blk ?_ | refine awp_block ?_ | refine awp_skip ?_ | refine awp_ret ?_ | refine awp_exit ?_ | refine q_seqE ?_ | refine q_seqR ?_ | refine q_blkR ?_ | refine q_blkE ?_) | ((with_reducible refine awp_region ?_ ?_); (focus exact kr)) | ((with_reducible refine awp_region_any mixed ?_ ?_); (focus exact kr)) | ((with_reducible apply awp_condT); (focus exact rfl); (focus exact tt)) | ((with_reducible apply awp_condF); (focus exact rfl); (focus exact ff)) | ((with_reducible apply awp_condD); (focus exact rfl)) | ((with_reducible apply awp_condN); (focus exact rfl)) | ((with_reducible apply awp_cond); (focus exact rfl)) | ((with_reducible refine q_blkX ?_ ?_); (focus exact rfl)) | ((with_reducible refine r_nil (And.intro ?_ ?_)); (focus exact kr)) | (with_reducible refine r_nil ?_) | ((with_reducible apply r_put); (focus (first | exact dp | exact oc rfl (aw) | exact oc rfl (hcp) | exact oc rfl (r1) | exact oc rfl (r2) | exact oc rfl (h1) | exact oc rfl (h2) | exact oc rfl (hin) | exact oc rfl (h3)))) | ((with_reducible apply r_new); (focus exact dn)) | ((with_reducible apply r_app); (focus exact da)) | ((with_reducible apply r_set); (focus exact ds)) | ((with_reducible apply r_putY); (focus exact rfl); (focus exact rfl); (focus exact tf); (focus (first | exact dp | exact oc rfl (aw) | exact oc rfl (hcp) | exact oc rfl (r1) | exact oc rfl (r2) | exact oc rfl (h1) | exact oc rfl (h2) | exact oc rfl (hin) | exact oc rfl (h3)))) | ((with_reducible apply r_newY); (focus exact rfl); (focus exact rfl); (focus exact tf); (focus exact dn)) | ((with_reducible apply r_noT); (focus exact rfl); (focus exact rfl); (focus exact ff)) | ((with_reducible apply r_noF); (focus exact rfl); (focus exact rfl); (focus exact tt)) | ((with_reducible apply r_noU); (focus exact rfl); (focus exact rfl)) | ((with_reducible apply r_splitD); (focus exact rfl); (focus exact rfl)) | ((with_reducible apply r_split); (focus exact rfl); (focus exact rfl))))
  refine awp_loopL (α := Nat) (fun k => [(5, .d (isl X)), (9, .d (isl Y)), (11, .d (I k))]) (fun _ => []) (fun k => k ≤ L.length) (fun k => L.length - k) 0 (Nat.zero_le _) (And.intro rfl (And.intro rfl (And.intro rfl trivial))) trivial fun k hk => ?_
  by_cases hlt : k < L.length
  · rcases hw k hlt with h | h
    · (repeat' (first | (with_reducible first | intro hg | refine awp_seq ?_ | refine q_seq ?_ | refine q_blk ?_ | refine awp_block ?_ | refine awp_skip ?_ | refine awp_ret ?_ | refine awp_exit ?_ | refine q_seqE ?_ | refine q_seqR ?_ | refine q_blkR ?_ | refine q_blkE ?_) | ((with_reducible refine awp_region ?_ ?_); (focus exact kr)) | ((with_reducible refine awp_region_any mixed ?_ ?_); (focus exact kr)) | ((with_reducible apply awp_condT); (focus exact rfl); (focus exact tt)) | ((with_reducible apply awp_condF); (focus exact rfl); (focus exact ff)) | ((with_reducible apply awp_condD); (focus exact rfl)) | ((with_reducible apply awp_condN); (focus exact rfl)) | ((with_reducible apply awp_cond); (focus exact rfl)) | ((with_reducible refine q_blkX ?_ ?_); (focus exact rfl)) | ((with_reducible refine r_nil (And.intro ?_ ?_)); (focus exact kr)) | (with_reducible refine r_nil ?_) | ((with_reducible apply r_put); (focus (first | exact o_indexI (j := k) (xs := X) rfl rfl (by omega) rfl | exact o_indexI (j := k) (xs := Y) rfl rfl (by omega) rfl | exact dp))) | ((with_reducible apply r_new); (focus exact dn)) | ((with_reducible apply r_app); (focus exact da)) | ((with_reducible apply r_set); (focus exact ds)) | ((with_reducible apply r_putY); (focus exact rfl); (focus exact rfl); (focus exact tf); (focus (first | exact o_indexI (j := k) (xs := X) rfl rfl (by omega) rfl | exact o_indexI (j := k) (xs := Y) rfl rfl (by omega) rfl | exact dp))) | ((with_reducible apply r_newY); (focus exact rfl); (focus exact rfl); (focus exact tf); (focus exact dn)) | ((with_reducible apply r_noT); (focus exact rfl); (focus exact rfl); (focus exact ff)) | ((with_reducible apply r_noF); (focus exact rfl); (focus exact rfl); (focus exact tt)) | ((with_reducible apply r_noU); (focus exact rfl); (focus exact rfl)) | ((with_reducible apply r_splitD); (focus exact rfl); (focus exact rfl)) | ((with_reducible apply r_split); (focus exact rfl); (focus exact rfl))))
      exact ⟨k + 1, hlt, by omega, (And.intro rfl (And.intro rfl (And.intro rfl trivial))), trivial⟩
    · by_cases h' : nth Y k = nth X k
      · (repeat' (first | (with_reducible first | intro hg | refine awp_seq ?_ | refine q_seq ?_ | refine q_blk ?_ | refine awp_block ?_ | refine awp_skip ?_ | refine awp_ret ?_ | refine awp_exit ?_ | refine q_seqE ?_ | refine q_seqR ?_ | refine q_blkR ?_ | refine q_blkE ?_) | ((with_reducible refine awp_region ?_ ?_); (focus exact kr)) | ((with_reducible refine awp_region_any mixed ?_ ?_); (focus exact kr)) | ((with_reducible apply awp_condT); (focus exact rfl); (focus exact tt)) | ((with_reducible apply awp_condF); (focus exact rfl); (focus exact ff)) | ((with_reducible apply awp_condD); (focus exact rfl)) | ((with_reducible apply awp_condN); (focus exact rfl)) | ((with_reducible apply awp_cond); (focus exact rfl)) | ((with_reducible refine q_blkX ?_ ?_); (focus exact rfl)) | ((with_reducible refine r_nil (And.intro ?_ ?_)); (focus exact kr)) | (with_reducible refine r_nil ?_) | ((with_reducible apply r_put); (focus (first | exact o_indexI (j := k) (xs := X) rfl rfl (by omega) rfl | exact o_indexI (j := k) (xs := Y) rfl rfl (by omega) rfl | exact dp))) | ((with_reducible apply r_new); (focus exact dn)) | ((with_reducible apply r_app); (focus exact da)) | ((with_reducible apply r_set); (focus exact ds)) | ((with_reducible apply r_putY); (focus exact rfl); (focus exact rfl); (focus exact tf); (focus (first | exact o_indexI (j := k) (xs := X) rfl rfl (by omega) rfl | exact o_indexI (j := k) (xs := Y) rfl rfl (by omega) rfl | exact dp))) | ((with_reducible apply r_newY); (focus exact rfl); (focus exact rfl); (focus exact tf); (focus exact dn)) | ((with_reducible apply r_noT); (focus exact rfl); (focus exact rfl); (focus exact ff)) | ((with_reducible apply r_noF); (focus exact rfl); (focus exact rfl); (focus exact tt)) | ((with_reducible apply r_noU); (focus exact rfl); (focus exact rfl)) | ((with_reducible apply r_splitD); (focus exact rfl); (focus exact rfl)) | ((with_reducible apply r_split); (focus exact rfl); (focus exact rfl))))
        exact ⟨k + 1, hlt, by omega, (And.intro rfl (And.intro rfl (And.intro rfl trivial))), trivial⟩
      · (repeat' (first | (with_reducible first | intro hg | refine awp_seq ?_ | refine q_seq ?_ | refine q_blk ?_ | refine awp_block ?_ | refine awp_skip ?_ | refine awp_ret ?_ | refine awp_exit ?_ | refine q_seqE ?_ | refine q_seqR ?_ | refine q_blkR ?_ | refine q_blkE ?_) | ((with_reducible refine awp_region ?_ ?_); (focus exact kr)) | ((with_reducible refine awp_region_any mixed ?_ ?_); (focus exact kr)) | ((with_reducible apply awp_condT); (focus exact rfl); (focus exact tt)) | ((with_reducible apply awp_condF); (focus exact rfl); (focus exact ff)) | ((with_reducible apply awp_condD); (focus exact rfl)) | ((with_reducible apply awp_condN); (focus exact rfl)) | ((with_reducible apply awp_cond); (focus exact rfl)) | ((with_reducible refine q_blkX ?_ ?_); (focus exact rfl)) | ((with_reducible refine r_nil (And.intro ?_ ?_)); (focus exact kr)) | (with_reducible refine r_nil ?_) | ((with_reducible apply r_put); (focus (first | exact o_indexI (j := k) (xs := X) rfl rfl (by omega) rfl | exact o_indexI (j := k) (xs := Y) rfl rfl (by omega) rfl | exact dp))) | ((with_reducible apply r_new); (focus exact dn)) | ((with_reducible apply r_app); (focus exact da)) | ((with_reducible apply r_set); (focus exact ds)) | ((with_reducible apply r_putY); (focus exact rfl); (focus exact rfl); (focus exact tf); (focus (first | exact o_indexI (j := k) (xs := X) rfl rfl (by omega) rfl | exact o_indexI (j := k) (xs := Y) rfl rfl (by omega) rfl | exact dp))) | ((with_reducible apply r_newY); (focus exact rfl); (focus exact rfl); (focus exact tf); (focus exact dn)) | ((with_reducible apply r_noT); (focus exact rfl); (focus exact rfl); (focus exact ff)) | ((with_reducible apply r_noF); (focus exact rfl); (focus exact rfl); (focus exact tt)) | ((with_reducible apply r_noU); (focus exact rfl); (focus exact rfl)) | ((with_reducible apply r_splitD); (focus exact rfl); (focus exact rfl)) | ((with_reducible apply r_split); (focus exact rfl); (focus exact rfl))))
        exact ⟨k + 1, hlt, by omega, (And.intro rfl (And.intro rfl (And.intro rfl trivial))), trivial⟩
  · (repeat' (first | (with_reducible first | intro hg | refine awp_seq ?_ | refine q_seq ?_ | refine q_blk ?_ | refine awp_block ?_ | refine awp_skip ?_ | refine awp_ret ?_ | refine awp_exit ?_ | refine q_seqE ?_ | refine q_seqR ?_ | refine q_blkR ?_ | refine q_blkE ?_) | ((with_reducible refine awp_region ?_ ?_); (focus exact kr)) | ((with_reducible refine awp_region_any mixed ?_ ?_); (focus exact kr)) | ((with_reducible apply awp_condT); (focus exact rfl); (focus exact tt)) | ((with_reducible apply awp_condF); (focus exact rfl); (focus exact ff)) | ((with_reducible apply awp_condD); (focus exact rfl)) | ((with_reducible apply awp_condN); (focus exact rfl)) | ((with_reducible apply awp_cond); (focus exact rfl)) | ((with_reducible refine q_blkX ?_ ?_); (focus exact rfl)) | ((with_reducible refine r_nil (And.intro ?_ ?_)); (focus exact kr)) | (with_reducible refine r_nil ?_) | ((with_reducible apply r_put); (focus exact dp)) | ((with_reducible apply r_new); (focus exact dn)) | ((with_reducible apply r_app); (focus exact da)) | ((with_reducible apply r_set); (focus exact ds)) | ((with_reducible apply r_putY); (focus exact rfl); (focus exact rfl); (focus exact tf); (focus exact dp)) | ((with_reducible apply r_newY); (focus exact rfl); (focus exact rfl); (focus exact tf); (focus exact dn)) | ((with_reducible apply r_noT); (focus exact rfl); (focus exact rfl); (focus exact ff)) | ((with_reducible apply r_noF); (focus exact rfl); (focus exact rfl); (focus exact tt)) | ((with_reducible apply r_noU); (focus exact rfl); (focus exact rfl)) | ((with_reducible apply r_splitD); (focus exact rfl); (focus exact rfl)) | ((with_reducible apply r_split); (focus exact rfl); (focus exact rfl))))
    ((with_reducible first | apply q_retR | apply q_retN); (focus exact rl))
    rfl

end Go.Proofs.Ytgklcfjfegceeaa
