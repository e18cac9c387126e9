/- Which boxes are kept: walk. -/
import Derived.Test.YtniilkoggpghdaaUw
import Derived.Test.YtniilkoggpghdaaUj
import Derived.Test.YtniilkoggpghdaaUt
set_option linter.unusedVariables false
set_option linter.unusedSimpArgs false
namespace Go.Proofs.Ytniilkoggpghdaa
open Go.RowKit
set_option maxRecDepth 20000
set_option maxHeartbeats 8000000

/-- The error of a range. -/
def bxE1 (x : Lp) (r : Rg) : Int := fst0 [unl (decide (r.1 ≤ r.2)) 9, unl (inR r.1 x.llo x.lhi && inR r.2 x.llo x.lhi) 22]
def bxEs : List Lp → List Rg → Nat → Int × Int
  | x :: L, r :: C, k => bif bxE1 x r == 0 then bxEs L C (k + 1) else ((k : Int), bxE1 x r)
  | _, _, _ => (0, 0)
/-- The index and the error of a box of a valid chain. -/
def bxE (L : List Lp) (C : List Rg) : Int × Int := bif decide (C.length = L.length) then (bif (bxEs L C 0).2 == 0 then (bif decide (fstI (lvA L C) L.length < 0) then (0, 0) else (fstI (lvA L C) L.length, 19)) else bxEs L C 0) else (0, 10)
theorem drop_rg {C : List Rg} {k : Nat} (h : k < C.length) : C.drop k = C.getD k rg0 :: C.drop (k + 1) := by
  rw [List.drop_eq_getElem_cons h, List.getD_eq_getElem?_getD, List.getElem?_eq_getElem h]; rfl
theorem bxEs_drop {L : List Lp} {C : List Rg} {k : Nat} (h : k < L.length) (h1 : C.length = L.length) : bxEs (L.drop k) (C.drop k) k = bif bxE1 (L.getD k lp0) (C.getD k rg0) == 0 then bxEs (L.drop (k + 1)) (C.drop (k + 1)) (k + 1) else ((k : Int), bxE1 (L.getD k lp0) (C.getD k rg0)) := by
  rw [drop_lp h, drop_rg (C := C) (k := k) (by omega)]; rfl
theorem bxE1_ok {x : Lp} {r : Rg} (h : bxE1 x r = 0) : r.1 ≤ r.2 ∧ (x.llo ≤ r.1 ∧ r.1 ≤ x.lhi) ∧ x.llo ≤ r.2 ∧ r.2 ≤ x.lhi := by
  obtain ⟨h1, h2⟩ := fst0_cons h
  rw [fst0_one] at h2
  have h1 := of_decide_eq_true (unl_ok (by decide) h1)
  have h2 := unl_ok (by decide) h2
  rw [Bool.and_eq_true, inR_true, inR_true] at h2
  exact ⟨h1, h2⟩
theorem bxEs_ok : ∀ {L : List Lp} {C : List Rg} {j : Nat}, C.length = L.length → (bxEs L C j).2 = 0 → ∀ k, k < L.length → bxE1 (L.getD k lp0) (C.getD k rg0) = 0
  | [], _, _, _, _, k, hk => absurd hk (Nat.not_lt_zero k)
  | x :: L, [], _, h1, _, _, _ => by simp at h1
  | x :: L, r :: C, j, h1, he, k, hk => by
    unfold bxEs at he
    by_cases h0 : bxE1 x r = 0
    · rw [beq0_t h0] at he
      rcases k with _ | k
      · exact h0
      · exact bxEs_ok (L := L) (C := C) (j := j + 1) (by simpa using h1) he k (by simpa using hk)
    · rw [beq0_f h0] at he
      exact absurd he h0
theorem bxEs_box {L : List Lp} {C : List Rg} (h1 : C.length = L.length) (h : (bxEs L C 0).2 = 0) : BxL L C := ⟨h1, fun i hi => by
  have h2 := bxE1_ok (bxEs_ok h1 h i hi)
  exact ⟨h2.1, inL_iff.2 h2.2⟩⟩
theorem checkBox_A (L : List Lp) (C : List Rg) (h0 : (chE L).2 = 0) (hm : C.length ≤ 140737488355328) : AC Try.prog 48 [chV L, rgV C] (.tuple [I (bxE L C).1, I (bxE L C).2]) := by
  obtain ⟨l0, l5, hL⟩ := chE_ok h0
  have wo := open_A L (by omega)
  rw [h0] at wo
  by_cases h1 : C.length = L.length
  rotate_left
  · have e : bxE L C = (0, 10) := by unfold bxE; rw [decide_eq_false h1]; rfl
    have u1 : AC Try.prog 83 [B (decide ((C.length : Int) = (L.length : Int))), I 10] (I 10) := by
      rw [decide_eq_false (by omega)]
      exact unless_A _ _
    rw [e]
    refine ac_body Try.func48 rfl (by kernel_rfl) fun w0 ok => ?_; show AWp _ (ctx0 w0 ok _) _ (ARet _ _ _) (entry _)
    (repeat' (first | (with_reducible first | intro hg | refine awp_seq ?_ | refine q_seq ?_ | refine q_blk ?_ | refine awp_block ?_ | refine awp_skip ?_ | refine awp_ret ?_ | refine awp_exit ?_ | refine q_seqE ?_ | refine q_seqR ?_ | refine q_blkR ?_ | refine q_blkE ?_) | ((with_reducible refine awp_region ?_ ?_); (focus exact kr)) | ((with_reducible refine awp_region_any mixed ?_ ?_); (focus exact kr)) | ((with_reducible apply awp_condT); (focus exact rfl); (focus exact tt)) | ((with_reducible apply awp_condF); (focus exact rfl); (focus exact ff)) | ((with_reducible apply awp_condD); (focus exact rfl)) | ((with_reducible apply awp_condN); (focus exact rfl)) | ((with_reducible apply awp_cond); (focus exact rfl)) | ((with_reducible refine q_blkX ?_ ?_); (focus exact rfl)) | ((with_reducible refine r_nil (And.intro ?_ ?_)); (focus exact kr)) | (with_reducible refine r_nil ?_) | ((with_reducible apply r_put); (focus (first | exact dp | exact oc rfl (wo) | exact oc rfl (u1) | exact oc rfl (first2_A _ _)))) | ((with_reducible apply r_new); (focus exact dn)) | ((with_reducible apply r_app); (focus exact da)) | ((with_reducible apply r_set); (focus exact ds)) | ((with_reducible apply r_putY); (focus exact rfl); (focus exact rfl); (focus exact tf); (focus (first | exact dp | exact oc rfl (wo) | exact oc rfl (u1) | exact oc rfl (first2_A _ _)))) | ((with_reducible apply r_newY); (focus exact rfl); (focus exact rfl); (focus exact tf); (focus exact dn)) | ((with_reducible apply r_noT); (focus exact rfl); (focus exact rfl); (focus exact ff)) | ((with_reducible apply r_noF); (focus exact rfl); (focus exact rfl); (focus exact tt)) | ((with_reducible apply r_noU); (focus exact rfl); (focus exact rfl)) | ((with_reducible apply r_splitD); (focus exact rfl); (focus exact rfl)) | ((with_reducible apply r_split); (focus exact rfl); (focus exact rfl))))
    ((with_reducible first | apply q_retR | apply q_retN); (focus exact rl))
    rfl
  have u1 : AC Try.prog 83 [B (decide ((C.length : Int) = (L.length : Int))), I 10] (I 0) := by
    rw [decide_eq_true (by omega)]
    exact unless_A _ _
  have e : bxE L C = bif (bxEs L C 0).2 == 0 then (bif decide (fstI (lvA L C) L.length < 0) then (0, 0) else (fstI (lvA L C) L.length, 19)) else bxEs L C 0 := by unfold bxE; rw [decide_eq_true h1]; rfl
  generalize bxE L C = R at *
  refine ac_body Try.func48 rfl (by kernel_rfl) fun w0 ok => ?_; show AWp _ (ctx0 w0 ok _) _ (ARet _ _ _) (entry _)
  (repeat' (first | (with_reducible first | intro hg | refine awp_seq ?_ | refine q_seq ?_ | refine q_blk ?_ | refine awp_block ?_ | refine awp_skip ?_ | refine awp_ret ?_ | refine awp_exit ?_ | refine q_seqE ?_ | refine q_seqR ?_ | refine q_blkR ?_ | refine q_blkE ?_) | ((with_reducible refine awp_region ?_ ?_); (focus exact kr)) | ((with_reducible refine awp_region_any mixed ?_ ?_); (focus exact kr)) | ((with_reducible apply awp_condT); (focus exact rfl); (focus exact tt)) | ((with_reducible apply awp_condF); (focus exact rfl); (focus exact ff)) | ((with_reducible apply awp_condD); (focus exact rfl)) | ((with_reducible apply awp_condN); (focus exact rfl)) | ((with_reducible apply awp_cond); (focus exact rfl)) | ((with_reducible refine q_blkX ?_ ?_); (focus exact rfl)) | ((with_reducible refine r_nil (And.intro ?_ ?_)); (focus exact kr)) | (with_reducible refine r_nil ?_) | ((with_reducible apply r_put); (focus (first | exact dp | exact oc rfl (wo) | exact oc rfl (u1) | exact oc rfl (first2_A _ _)))) | ((with_reducible apply r_new); (focus exact dn)) | ((with_reducible apply r_app); (focus exact da)) | ((with_reducible apply r_set); (focus exact ds)) | ((with_reducible apply r_putY); (focus exact rfl); (focus exact rfl); (focus exact tf); (focus (first | exact dp | exact oc rfl (wo) | exact oc rfl (u1) | exact oc rfl (first2_A _ _)))) | ((with_reducible apply r_newY); (focus exact rfl); (focus exact rfl); (focus exact tf); (focus exact dn)) | ((with_reducible apply r_noT); (focus exact rfl); (focus exact rfl); (focus exact ff)) | ((with_reducible apply r_noF); (focus exact rfl); (focus exact rfl); (focus exact tt)) | ((with_reducible apply r_noU); (focus exact rfl); (focus exact rfl)) | ((with_reducible apply r_splitD); (focus exact rfl); (focus exact rfl)) | ((with_reducible apply r_split); (focus exact rfl); (focus exact rfl))))
  refine awp_loopL (α := Nat) (fun k => [(1, .d (rgV C)), (2, .ptr 2 0), (6, .ptr 6 0), (31, .d (rgV C)), (32, .d (I C.length)), (33, .d (I k))]) (fun _ => [(2, ⟨24, chC L⟩), (6, ⟨135, chC L⟩)]) (fun k => k ≤ L.length ∧ bxEs L C 0 = bxEs (L.drop k) (C.drop k) k) (fun k => L.length - k) 0 ⟨Nat.zero_le _, rfl⟩ (And.intro rfl (And.intro rfl (And.intro rfl (And.intro rfl (And.intro rfl (And.intro rfl trivial)))))) (And.intro rfl (And.intro rfl trivial)) fun k ⟨hk, hE⟩ => ?_
  by_cases hlt : k < L.length
  · rw [bxEs_drop hlt h1] at hE
    have w1 := isIn_A (C.getD k rg0).1 (L.getD k lp0).llo (L.getD k lp0).lhi
    have w2 := isIn_A (C.getD k rg0).2 (L.getD k lp0).llo (L.getD k lp0).lhi
    have e1 : bxE1 (L.getD k lp0) (C.getD k rg0) = fst0 [unl (decide ((C.getD k rg0).1 ≤ (C.getD k rg0).2)) 9, unl (inR (C.getD k rg0).1 (L.getD k lp0).llo (L.getD k lp0).lhi && inR (C.getD k rg0).2 (L.getD k lp0).llo (L.getD k lp0).lhi) 22] := rfl
    generalize inR (C.getD k rg0).1 (L.getD k lp0).llo (L.getD k lp0).lhi = b1 at *
    generalize inR (C.getD k rg0).2 (L.getD k lp0).llo (L.getD k lp0).lhi = b2 at *
    have hf := first2_A (unl (decide ((C.getD k rg0).1 ≤ (C.getD k rg0).2)) 9) (unl (b1 && b2) 22)
    rw [← e1] at hf
    generalize bxE1 (L.getD k lp0) (C.getD k rg0) = u at *
    clear e1 wo u1 hL
    by_cases hu : u = 0
    · subst hu
      clear e
      cases b1
      all_goals
        (repeat' (first | (with_reducible first | intro hg | refine awp_seq ?_ | refine q_seq ?_ | refine q_blk ?_ | refine awp_block ?_ | refine awp_skip ?_ | refine awp_ret ?_ | refine awp_exit ?_ | refine q_seqE ?_ | refine q_seqR ?_ | refine q_blkR ?_ | refine q_blkE ?_) | ((with_reducible refine awp_region ?_ ?_); (focus exact kr)) | ((with_reducible refine awp_region_any mixed ?_ ?_); (focus exact kr)) | ((with_reducible apply awp_condT); (focus exact rfl); (focus exact tt)) | ((with_reducible apply awp_condF); (focus exact rfl); (focus exact ff)) | ((with_reducible apply awp_condD); (focus exact rfl)) | ((with_reducible apply awp_condN); (focus exact rfl)) | ((with_reducible apply awp_cond); (focus exact rfl)) | ((with_reducible refine q_blkX ?_ ?_); (focus exact rfl)) | ((with_reducible refine r_nil (And.intro ?_ ?_)); (focus exact kr)) | (with_reducible refine r_nil ?_) | ((with_reducible apply r_put); (focus (first | exact o_indexF lp0 lpC_len (by decide) rfl rfl (by omega) rfl | exact o_indexF rg0 frC_len (by decide) rfl rfl (by omega) rfl | exact dp | exact oc rfl (w1) | exact oc rfl (w2) | exact oc rfl (unless_A _ _) | exact oc rfl (hf)))) | ((with_reducible apply r_new); (focus exact dn)) | ((with_reducible apply r_app); (focus exact da)) | ((with_reducible apply r_set); (focus exact ds)) | ((with_reducible apply r_putY); (focus exact rfl); (focus exact rfl); (focus exact tf); (focus (first | exact o_indexF lp0 lpC_len (by decide) rfl rfl (by omega) rfl | exact o_indexF rg0 frC_len (by decide) rfl rfl (by omega) rfl | exact dp | exact oc rfl (w1) | exact oc rfl (w2) | exact oc rfl (unless_A _ _) | exact oc rfl (hf)))) | ((with_reducible apply r_newY); (focus exact rfl); (focus exact rfl); (focus exact tf); (focus exact dn)) | ((with_reducible apply r_noT); (focus exact rfl); (focus exact rfl); (focus exact ff)) | ((with_reducible apply r_noF); (focus exact rfl); (focus exact rfl); (focus exact tt)) | ((with_reducible apply r_noU); (focus exact rfl); (focus exact rfl)) | ((with_reducible apply r_splitD); (focus exact rfl); (focus exact rfl)) | ((with_reducible apply r_split); (focus exact rfl); (focus exact rfl))))
        exact ⟨k + 1, ⟨hlt, hE⟩, by omega, (And.intro rfl (And.intro rfl (And.intro rfl (And.intro rfl (And.intro rfl (And.intro rfl trivial)))))), (And.intro rfl (And.intro rfl trivial))⟩
    · rw [beq0_f hu] at hE
      have hE : bxEs L C 0 = ((k : Int), u) := hE
      have e2 : R = ((k : Int), u) := by
        rw [e, hE]
        show (bif u == 0 then _ else ((k : Int), u)) = _
        rw [beq0_f hu]; rfl
      rw [e2]
      clear e e2
      cases b1
      all_goals
        (repeat' (first | (with_reducible first | intro hg | refine awp_seq ?_ | refine q_seq ?_ | refine q_blk ?_ | refine awp_block ?_ | refine awp_skip ?_ | refine awp_ret ?_ | refine awp_exit ?_ | refine q_seqE ?_ | refine q_seqR ?_ | refine q_blkR ?_ | refine q_blkE ?_) | ((with_reducible refine awp_region ?_ ?_); (focus exact kr)) | ((with_reducible refine awp_region_any mixed ?_ ?_); (focus exact kr)) | ((with_reducible apply awp_condT); (focus exact rfl); (focus exact tt)) | ((with_reducible apply awp_condF); (focus exact rfl); (focus exact ff)) | ((with_reducible apply awp_condD); (focus exact rfl)) | ((with_reducible apply awp_condN); (focus exact rfl)) | ((with_reducible apply awp_cond); (focus exact rfl)) | ((with_reducible refine q_blkX ?_ ?_); (focus exact rfl)) | ((with_reducible refine r_nil (And.intro ?_ ?_)); (focus exact kr)) | (with_reducible refine r_nil ?_) | ((with_reducible apply r_put); (focus (first | exact o_indexF lp0 lpC_len (by decide) rfl rfl (by omega) rfl | exact o_indexF rg0 frC_len (by decide) rfl rfl (by omega) rfl | exact dp | exact oc rfl (w1) | exact oc rfl (w2) | exact oc rfl (unless_A _ _) | exact oc rfl (hf)))) | ((with_reducible apply r_new); (focus exact dn)) | ((with_reducible apply r_app); (focus exact da)) | ((with_reducible apply r_set); (focus exact ds)) | ((with_reducible apply r_putY); (focus exact rfl); (focus exact rfl); (focus exact tf); (focus (first | exact o_indexF lp0 lpC_len (by decide) rfl rfl (by omega) rfl | exact o_indexF rg0 frC_len (by decide) rfl rfl (by omega) rfl | exact dp | exact oc rfl (w1) | exact oc rfl (w2) | exact oc rfl (unless_A _ _) | exact oc rfl (hf)))) | ((with_reducible apply r_newY); (focus exact rfl); (focus exact rfl); (focus exact tf); (focus exact dn)) | ((with_reducible apply r_noT); (focus exact rfl); (focus exact rfl); (focus exact ff)) | ((with_reducible apply r_noF); (focus exact rfl); (focus exact rfl); (focus exact tt)) | ((with_reducible apply r_noU); (focus exact rfl); (focus exact rfl)) | ((with_reducible apply r_splitD); (focus exact rfl); (focus exact rfl)) | ((with_reducible apply r_split); (focus exact rfl); (focus exact rfl))))
        ((with_reducible first | apply q_retR | apply q_retN); (focus exact rl))
        rfl
  · have e0 : bxEs L C 0 = (0, 0) := by rw [hE, List.drop_of_length_le (by omega)]; rfl
    have hbx := bxEs_box h1 (by rw [e0])
    have e2 : R = bif decide (fstI (lvA L C) L.length < 0) then (0, 0) else (fstI (lvA L C) L.length, 19) := by rw [e, e0]; rfl
    have hN := next_A L hL l0 (by omega) C (hbx.small hL)
    have hlv : AC Try.prog 86 [.slice L.length (((rgS (lsR (imgA L C) L.length)).drop 0).take (L.length * 2)), rgV C] (I (fstI (lvA L C) L.length)) := by
      have h := leaves_A (lsR (imgA L C) L.length) C (by rw [lsR_length, h1]) (by rw [lsR_length]; omega)
      have hNl := rgS_len (lsR (imgA L C) L.length)
      rw [lsR_length] at hNl
      rw [lsR_length, lvB_img] at h
      have e1 : DV.slice L.length (((rgS (lsR (imgA L C) L.length)).drop 0).take (L.length * 2)) = rgV (lsR (imgA L C) L.length) := by
        rw [List.drop_zero, List.take_of_length_le (by omega)]
        show _ = DV.slice _ _
        rw [lsR_length]
      rw [e1]
      exact h
    generalize fstI (lvA L C) L.length = f at *
    clear hE e0 hbx e wo u1 hL
    by_cases hf : f < 0
    · rw [decide_eq_true hf] at e2
      rw [show R = (0, 0) from e2]
      (repeat' (first | (with_reducible first | intro hg | refine awp_seq ?_ | refine q_seq ?_ | refine q_blk ?_ | refine awp_block ?_ | refine awp_skip ?_ | refine awp_ret ?_ | refine awp_exit ?_ | refine q_seqE ?_ | refine q_seqR ?_ | refine q_blkR ?_ | refine q_blkE ?_) | ((with_reducible refine awp_region ?_ ?_); (focus exact kr)) | ((with_reducible refine awp_region_any mixed ?_ ?_); (focus exact kr)) | ((with_reducible apply awp_condT); (focus exact rfl); (focus exact tt)) | ((with_reducible apply awp_condF); (focus exact rfl); (focus exact ff)) | ((with_reducible apply awp_condD); (focus exact rfl)) | ((with_reducible apply awp_condN); (focus exact rfl)) | ((with_reducible apply awp_cond); (focus exact rfl)) | ((with_reducible refine q_blkX ?_ ?_); (focus exact rfl)) | ((with_reducible refine r_nil (And.intro ?_ ?_)); (focus exact kr)) | (with_reducible refine r_nil ?_) | ((with_reducible apply r_put); (focus (first | exact o_call rfl hlv (.inr rfl) | exact dp))) | ((with_reducible apply r_new); (focus (first | exact dn | exact o_callO rfl hN (.inl rfl)))) | ((with_reducible apply r_app); (focus exact da)) | ((with_reducible apply r_set); (focus exact ds)) | ((with_reducible apply r_putY); (focus exact rfl); (focus exact rfl); (focus exact tf); (focus (first | exact o_call rfl hlv (.inr rfl) | exact dp))) | ((with_reducible apply r_newY); (focus exact rfl); (focus exact rfl); (focus exact tf); (focus (first | exact dn | exact o_callO rfl hN (.inl rfl)))) | ((with_reducible apply r_noT); (focus exact rfl); (focus exact rfl); (focus exact ff)) | ((with_reducible apply r_noF); (focus exact rfl); (focus exact rfl); (focus exact tt)) | ((with_reducible apply r_noU); (focus exact rfl); (focus exact rfl)) | ((with_reducible apply r_splitD); (focus exact rfl); (focus exact rfl)) | ((with_reducible apply r_split); (focus exact rfl); (focus exact rfl))))
      ((with_reducible first | apply q_retR | apply q_retN); (focus exact rl))
      rfl
    · rw [decide_eq_false hf] at e2
      rw [show R = (f, 19) from e2]
      (repeat' (first | (with_reducible first | intro hg | refine awp_seq ?_ | refine q_seq ?_ | refine q_blk ?_ | refine awp_block ?_ | refine awp_skip ?_ | refine awp_ret ?_ | refine awp_exit ?_ | refine q_seqE ?_ | refine q_seqR ?_ | refine q_blkR ?_ | refine q_blkE ?_) | ((with_reducible refine awp_region ?_ ?_); (focus exact kr)) | ((with_reducible refine awp_region_any mixed ?_ ?_); (focus exact kr)) | ((with_reducible apply awp_condT); (focus exact rfl); (focus exact tt)) | ((with_reducible apply awp_condF); (focus exact rfl); (focus exact ff)) | ((with_reducible apply awp_condD); (focus exact rfl)) | ((with_reducible apply awp_condN); (focus exact rfl)) | ((with_reducible apply awp_cond); (focus exact rfl)) | ((with_reducible refine q_blkX ?_ ?_); (focus exact rfl)) | ((with_reducible refine r_nil (And.intro ?_ ?_)); (focus exact kr)) | (with_reducible refine r_nil ?_) | ((with_reducible apply r_put); (focus (first | exact o_call rfl hlv (.inr rfl) | exact dp))) | ((with_reducible apply r_new); (focus (first | exact dn | exact o_callO rfl hN (.inl rfl)))) | ((with_reducible apply r_app); (focus exact da)) | ((with_reducible apply r_set); (focus exact ds)) | ((with_reducible apply r_putY); (focus exact rfl); (focus exact rfl); (focus exact tf); (focus (first | exact o_call rfl hlv (.inr rfl) | exact dp))) | ((with_reducible apply r_newY); (focus exact rfl); (focus exact rfl); (focus exact tf); (focus (first | exact dn | exact o_callO rfl hN (.inl rfl)))) | ((with_reducible apply r_noT); (focus exact rfl); (focus exact rfl); (focus exact ff)) | ((with_reducible apply r_noF); (focus exact rfl); (focus exact rfl); (focus exact tt)) | ((with_reducible apply r_noU); (focus exact rfl); (focus exact rfl)) | ((with_reducible apply r_splitD); (focus exact rfl); (focus exact rfl)) | ((with_reducible apply r_split); (focus exact rfl); (focus exact rfl))))
      ((with_reducible first | apply q_retR | apply q_retN); (focus exact rl))
      rfl

end Go.Proofs.Ytniilkoggpghdaa
