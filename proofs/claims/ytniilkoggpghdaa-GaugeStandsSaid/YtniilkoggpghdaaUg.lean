/- Spans of the exit thickness and of the gap. -/
import Derived.Test.YtniilkoggpghdaaUa
set_option linter.unusedVariables false
set_option linter.unusedSimpArgs false
namespace Go.Proofs.Ytniilkoggpghdaa
open Go.RowKit
set_option maxRecDepth 20000
set_option maxHeartbeats 8000000

abbrev spC (s : Fr × Fr) : List DV := [I s.1.1, I s.1.2, I s.2.1, I s.2.2]
abbrev spV (s : Fr × Fr) : DV := .agg (spC s)
/-- Parts whose products fit an int. -/
def SmF (f : Fr) : Prop := f.1.natAbs ≤ 1000000000 ∧ 0 < f.2 ∧ f.2 ≤ 1000000
theorem SmF.mul {a b : Fr} (ha : SmF a) (hb : SmF b) : Sm (a.1 * b.2) := by
  obtain ⟨h1, _, _⟩ := ha
  obtain ⟨_, h2, h3⟩ := hb
  have := mul_rng 1000000000 1000000 h1 (show b.2.natAbs ≤ 1000000 by omega)
  exact ⟨by omega, by omega⟩
/-- The span behind so many corners. -/
def spT (v00 v01 v10 v11 : Fr) : Nat → Fr × Fr
  | 0 => (v00, v00)
  | 1 => spn1 (v00, v00) v00
  | 2 => spn1 (spn1 (v00, v00) v00) v01
  | 3 => spn1 (spn1 (spn1 (v00, v00) v00) v01) v10
  | _ => spn1 (spn1 (spn1 (spn1 (v00, v00) v00) v01) v10) v11
theorem spT_sm {a b c d : Fr} (h1 : SmF a) (h2 : SmF b) (h3 : SmF c) (h4 : SmF d) (k : Nat) : SmF (spT a b c d k).1 ∧ SmF (spT a b c d k).2 := by
  have k1 := spn1_P (s := (a, a)) h1 h1 h1
  have k2 := spn1_P k1.1 k1.2 h2
  have k3 := spn1_P k2.1 k2.2 h3
  have k4 := spn1_P k3.1 k3.2 h4
  match k with
  | 0 => exact ⟨h1, h1⟩
  | 1 => exact k1
  | 2 => exact k2
  | 3 => exact k3
  | _ + 4 => exact k4
theorem spT_end (a b c d : Fr) : spT a b c d 4 = hull4 a b c d := by
  show spn1 (spn1 (spn1 (spn1 (a, a) a) b) c) d = _
  rw [spn1_self]; rfl
/-- A corner. -/
def crn (v00 v01 v10 v11 : Fr) : Nat → Nat → Fr
  | 0, 0 => v00
  | 0, _ => v01
  | _, 0 => v10
  | _, _ => v11
theorem lt2 {j : Nat} (h : j < 2) : j = 0 ∨ j = 1 := by omega
theorem span_A (K : Nat) (he : Enters Try.prog K) {fv : DV} {caps : List DV} (hv : FV K fv caps) (ml mh pl ph : Int) (a b c d : Fr) (h1 : SmF a) (h2 : SmF b) (h3 : SmF c) (h4 : SmF d)
    (p1 : AC Try.prog K ([I ml, I pl] ++ caps) (F2 a)) (p2 : AC Try.prog K ([I ml, I ph] ++ caps) (F2 b)) (p3 : AC Try.prog K ([I mh, I pl] ++ caps) (F2 c)) (p4 : AC Try.prog K ([I mh, I ph] ++ caps) (F2 d)) :
    AC Try.prog 127 [.agg [I ml, I mh, I pl, I ph], fv] (spV (hull4 a b c d)) := by
  rw [← spT_end]
  refine ac_body Try.func127 rfl (by kernel_rfl) fun w0 ok => ?_; show AWp _ (ctx0 w0 ok _) _ (ARet _ _ _) (entry _)
  (repeat' (first | (with_reducible first | intro hg | refine awp_seq ?_ | refine q_seq ?_ | refine q_blk ?_ | refine awp_block ?_ | refine awp_skip ?_ | refine awp_ret ?_ | refine awp_exit ?_ | refine q_seqE ?_ | refine q_seqR ?_ | refine q_blkR ?_ | refine q_blkE ?_) | ((with_reducible refine awp_region ?_ ?_); (focus exact kr)) | ((with_reducible refine awp_region_any mixed ?_ ?_); (focus exact kr)) | ((with_reducible apply awp_condT); (focus exact rfl); (focus exact tt)) | ((with_reducible apply awp_condF); (focus exact rfl); (focus exact ff)) | ((with_reducible apply awp_condD); (focus exact rfl)) | ((with_reducible apply awp_condN); (focus exact rfl)) | ((with_reducible apply awp_cond); (focus exact rfl)) | ((with_reducible refine q_blkX ?_ ?_); (focus exact rfl)) | ((with_reducible refine r_nil (And.intro ?_ ?_)); (focus exact kr)) | (with_reducible refine r_nil ?_) | ((with_reducible apply r_put); (focus (first | exact o_callF he (by exact hv.v rfl) rfl p1 (.inl rfl) | exact dp))) | ((with_reducible apply r_new); (focus exact dn)) | ((with_reducible apply r_app); (focus exact da)) | ((with_reducible apply r_set); (focus exact ds)) | ((with_reducible apply r_putY); (focus exact rfl); (focus exact rfl); (focus exact tf); (focus (first | exact o_callF he (by exact hv.v rfl) rfl p1 (.inl rfl) | exact dp))) | ((with_reducible apply r_newY); (focus exact rfl); (focus exact rfl); (focus exact tf); (focus exact dn)) | ((with_reducible apply r_noT); (focus exact rfl); (focus exact rfl); (focus exact ff)) | ((with_reducible apply r_noF); (focus exact rfl); (focus exact rfl); (focus exact tt)) | ((with_reducible apply r_noU); (focus exact rfl); (focus exact rfl)) | ((with_reducible apply r_splitD); (focus exact rfl); (focus exact rfl)) | ((with_reducible apply r_split); (focus exact rfl); (focus exact rfl))))
  refine awp_loopL (α := Nat) (fun i => [(1, .d fv), (2, .ptr 2 0), (4, .ptr 4 0), (6, .ptr 6 0), (29, .d (.agg [I ml, I mh])), (30, .d (I i))]) (fun i => [(2, ⟨111, [I ml, I mh, I pl, I ph]⟩), (4, ⟨118, [I 0, I 0, I 0, I 0]⟩), (6, ⟨118, spC (spT a b c d (2 * i))⟩)]) (fun i => i ≤ 2) (fun i => 2 - i) 0 (Nat.zero_le _) (And.intro rfl (And.intro rfl (And.intro rfl (And.intro rfl (And.intro rfl (And.intro rfl trivial)))))) (And.intro rfl (And.intro rfl (And.intro rfl trivial))) fun i hi => ?_
  by_cases hlt : i < 2
  rotate_left
  · obtain rfl : i = 2 := by omega
    (repeat' (first | (with_reducible first | intro hg | refine awp_seq ?_ | refine q_seq ?_ | refine q_blk ?_ | refine awp_block ?_ | refine awp_skip ?_ | refine awp_ret ?_ | refine awp_exit ?_ | refine q_seqE ?_ | refine q_seqR ?_ | refine q_blkR ?_ | refine q_blkE ?_) | ((with_reducible refine awp_region ?_ ?_); (focus exact kr)) | ((with_reducible refine awp_region_any mixed ?_ ?_); (focus exact kr)) | ((with_reducible apply awp_condT); (focus exact rfl); (focus exact tt)) | ((with_reducible apply awp_condF); (focus exact rfl); (focus exact ff)) | ((with_reducible apply awp_condD); (focus exact rfl)) | ((with_reducible apply awp_condN); (focus exact rfl)) | ((with_reducible apply awp_cond); (focus exact rfl)) | ((with_reducible refine q_blkX ?_ ?_); (focus exact rfl)) | ((with_reducible refine r_nil (And.intro ?_ ?_)); (focus exact kr)) | (with_reducible refine r_nil ?_) | ((with_reducible apply r_put); (focus exact dp)) | ((with_reducible apply r_new); (focus exact dn)) | ((with_reducible apply r_app); (focus exact da)) | ((with_reducible apply r_set); (focus exact ds)) | ((with_reducible apply r_putY); (focus exact rfl); (focus exact rfl); (focus exact tf); (focus exact dp)) | ((with_reducible apply r_newY); (focus exact rfl); (focus exact rfl); (focus exact tf); (focus exact dn)) | ((with_reducible apply r_noT); (focus exact rfl); (focus exact rfl); (focus exact ff)) | ((with_reducible apply r_noF); (focus exact rfl); (focus exact rfl); (focus exact tt)) | ((with_reducible apply r_noU); (focus exact rfl); (focus exact rfl)) | ((with_reducible apply r_splitD); (focus exact rfl); (focus exact rfl)) | ((with_reducible apply r_split); (focus exact rfl); (focus exact rfl))))
    ((with_reducible first | apply q_retR | apply q_retN); (focus exact rl))
    rfl
  have hcr : ∀ j, j < 2 → AC Try.prog K ([I (nth [ml, mh] i), I (nth [pl, ph] j)] ++ caps) (F2 (crn a b c d i j)) ∧ SmF (crn a b c d i j) ∧ spn1 (spT a b c d (2 * i + j)) (crn a b c d i j) = spT a b c d (2 * i + (j + 1)) := fun j hj => by
    rcases lt2 hlt with rfl | rfl <;> rcases lt2 hj with rfl | rfl
    · exact ⟨p1, h1, rfl⟩
    · exact ⟨p2, h2, rfl⟩
    · exact ⟨p3, h3, rfl⟩
    · exact ⟨p4, h4, rfl⟩
  have hix : ∃ m, nth [ml, mh] i = m ∧ ([I ml, I mh] : List DV)[((i : Nat) : Int).toNat * 1]? = some (I m) := by
    rcases lt2 hlt with rfl | rfl
    · exact ⟨_, rfl, rfl⟩
    · exact ⟨_, rfl, rfl⟩
  obtain ⟨m, hm1, hm2⟩ := hix
  rw [hm1] at hcr
  have hz1 : 2 * i + 0 = 2 * i := rfl
  (repeat' (first | (with_reducible first | intro hg | refine awp_seq ?_ | refine q_seq ?_ | refine q_blk ?_ | refine awp_block ?_ | refine awp_skip ?_ | refine awp_ret ?_ | refine awp_exit ?_ | refine q_seqE ?_ | refine q_seqR ?_ | refine q_blkR ?_ | refine q_blkE ?_) | ((with_reducible refine awp_region ?_ ?_); (focus exact kr)) | ((with_reducible refine awp_region_any mixed ?_ ?_); (focus exact kr)) | ((with_reducible apply awp_condT); (focus exact rfl); (focus exact tt)) | ((with_reducible apply awp_condF); (focus exact rfl); (focus exact ff)) | ((with_reducible apply awp_condD); (focus exact rfl)) | ((with_reducible apply awp_condN); (focus exact rfl)) | ((with_reducible apply awp_cond); (focus exact rfl)) | ((with_reducible refine q_blkX ?_ ?_); (focus exact rfl)) | ((with_reducible refine r_nil (And.intro ?_ ?_)); (focus exact kr)) | (with_reducible refine r_nil ?_) | ((with_reducible apply r_put); (focus (first | exact o_index rfl rfl (by omega) (by omega) hm2 | exact dp))) | ((with_reducible apply r_new); (focus exact dn)) | ((with_reducible apply r_app); (focus exact da)) | ((with_reducible apply r_set); (focus exact ds)) | ((with_reducible apply r_putY); (focus exact rfl); (focus exact rfl); (focus exact tf); (focus (first | exact o_index rfl rfl (by omega) (by omega) hm2 | exact dp))) | ((with_reducible apply r_newY); (focus exact rfl); (focus exact rfl); (focus exact tf); (focus exact dn)) | ((with_reducible apply r_noT); (focus exact rfl); (focus exact rfl); (focus exact ff)) | ((with_reducible apply r_noF); (focus exact rfl); (focus exact rfl); (focus exact tt)) | ((with_reducible apply r_noU); (focus exact rfl); (focus exact rfl)) | ((with_reducible apply r_splitD); (focus exact rfl); (focus exact rfl)) | ((with_reducible apply r_split); (focus exact rfl); (focus exact rfl))))
  refine awp_loopL (α := Nat) (fun j => [(1, .d fv), (2, .ptr 2 0), (4, .ptr 4 0), (6, .ptr 6 0), (8, .d (I m)), (29, .d (.agg [I ml, I mh])), (30, .d (I i)), (39, .d (.agg [I pl, I ph])), (40, .d (I j))]) (fun j => [(2, ⟨111, [I ml, I mh, I pl, I ph]⟩), (4, ⟨118, [I 0, I 0, I 0, I 0]⟩), (6, ⟨118, spC (spT a b c d (2 * i + j))⟩)]) (fun j => j ≤ 2) (fun j => 2 - j) 0 (Nat.zero_le _) (And.intro rfl (And.intro rfl (And.intro rfl (And.intro rfl (And.intro rfl (And.intro rfl (And.intro rfl (And.intro rfl (And.intro rfl trivial))))))))) (And.intro rfl (And.intro rfl (And.intro rfl trivial))) fun j hj => ?_
  by_cases hlj : j < 2
  rotate_left
  · obtain rfl : j = 2 := by omega
    (repeat' (first | (with_reducible first | intro hg | refine awp_seq ?_ | refine q_seq ?_ | refine q_blk ?_ | refine awp_block ?_ | refine awp_skip ?_ | refine awp_ret ?_ | refine awp_exit ?_ | refine q_seqE ?_ | refine q_seqR ?_ | refine q_blkR ?_ | refine q_blkE ?_) | ((with_reducible refine awp_region ?_ ?_); (focus exact kr)) | ((with_reducible refine awp_region_any mixed ?_ ?_); (focus exact kr)) | ((with_reducible apply awp_condT); (focus exact rfl); (focus exact tt)) | ((with_reducible apply awp_condF); (focus exact rfl); (focus exact ff)) | ((with_reducible apply awp_condD); (focus exact rfl)) | ((with_reducible apply awp_condN); (focus exact rfl)) | ((with_reducible apply awp_cond); (focus exact rfl)) | ((with_reducible refine q_blkX ?_ ?_); (focus exact rfl)) | ((with_reducible refine r_nil (And.intro ?_ ?_)); (focus exact kr)) | (with_reducible refine r_nil ?_) | ((with_reducible apply r_put); (focus exact dp)) | ((with_reducible apply r_new); (focus exact dn)) | ((with_reducible apply r_app); (focus exact da)) | ((with_reducible apply r_set); (focus exact ds)) | ((with_reducible apply r_putY); (focus exact rfl); (focus exact rfl); (focus exact tf); (focus exact dp)) | ((with_reducible apply r_newY); (focus exact rfl); (focus exact rfl); (focus exact tf); (focus exact dn)) | ((with_reducible apply r_noT); (focus exact rfl); (focus exact rfl); (focus exact ff)) | ((with_reducible apply r_noF); (focus exact rfl); (focus exact rfl); (focus exact tt)) | ((with_reducible apply r_noU); (focus exact rfl); (focus exact rfl)) | ((with_reducible apply r_splitD); (focus exact rfl); (focus exact rfl)) | ((with_reducible apply r_split); (focus exact rfl); (focus exact rfl))))
    exact ⟨i + 1, by omega, by omega, (And.intro rfl (And.intro rfl (And.intro rfl (And.intro rfl (And.intro rfl (And.intro rfl trivial)))))), (And.intro rfl (And.intro rfl (And.intro rfl trivial)))⟩
  obtain ⟨hp, hs, hst⟩ := hcr j hlj
  have hiy : ∃ q, nth [pl, ph] j = q ∧ ([I pl, I ph] : List DV)[((j : Nat) : Int).toNat * 1]? = some (I q) := by
    rcases lt2 hlj with rfl | rfl
    · exact ⟨_, rfl, rfl⟩
    · exact ⟨_, rfl, rfl⟩
  obtain ⟨q, hq1, hq2⟩ := hiy
  rw [hq1] at hp
  clear hcr hm2 hm1 hq1 p1 p2 p3 p4
  obtain ⟨s1, s2⟩ := spT_sm h1 h2 h3 h4 (2 * i + j)
  generalize spT a b c d (2 * i + j) = S at *
  generalize crn a b c d i j = x at *
  have l1 := less_A x S.1 (hs.mul s1) (s1.mul hs)
  have l2 := less_A S.2 x (s2.mul hs) (hs.mul s2)
  unfold spn1 at hst
  clear s1 s2 hs h1 h2 h3 h4
  cases e1 : fLt x S.1
  all_goals
    rw [e1] at l1 hst
    cases e2 : fLt S.2 x
    all_goals
      rw [e2] at l2 hst
      (repeat' (first | (with_reducible first | intro hg | refine awp_seq ?_ | refine q_seq ?_ | refine q_blk ?_ | refine awp_block ?_ | refine awp_skip ?_ | refine awp_ret ?_ | refine awp_exit ?_ | refine q_seqE ?_ | refine q_seqR ?_ | refine q_blkR ?_ | refine q_blkE ?_) | ((with_reducible refine awp_region ?_ ?_); (focus exact kr)) | ((with_reducible refine awp_region_any mixed ?_ ?_); (focus exact kr)) | ((with_reducible apply awp_condT); (focus exact rfl); (focus exact tt)) | ((with_reducible apply awp_condF); (focus exact rfl); (focus exact ff)) | ((with_reducible apply awp_condD); (focus exact rfl)) | ((with_reducible apply awp_condN); (focus exact rfl)) | ((with_reducible apply awp_cond); (focus exact rfl)) | ((with_reducible refine q_blkX ?_ ?_); (focus exact rfl)) | ((with_reducible refine r_nil (And.intro ?_ ?_)); (focus exact kr)) | (with_reducible refine r_nil ?_) | ((with_reducible apply r_put); (focus (first | exact o_index rfl rfl (by omega) (by omega) hq2 | exact o_callF he (by exact hv.v rfl) rfl hp (.inl rfl) | exact dp | exact oc rfl (l1) | exact oc rfl (l2)))) | ((with_reducible apply r_new); (focus exact dn)) | ((with_reducible apply r_app); (focus exact da)) | ((with_reducible apply r_set); (focus exact ds)) | ((with_reducible apply r_putY); (focus exact rfl); (focus exact rfl); (focus exact tf); (focus (first | exact o_index rfl rfl (by omega) (by omega) hq2 | exact o_callF he (by exact hv.v rfl) rfl hp (.inl rfl) | exact dp | exact oc rfl (l1) | exact oc rfl (l2)))) | ((with_reducible apply r_newY); (focus exact rfl); (focus exact rfl); (focus exact tf); (focus exact dn)) | ((with_reducible apply r_noT); (focus exact rfl); (focus exact rfl); (focus exact ff)) | ((with_reducible apply r_noF); (focus exact rfl); (focus exact rfl); (focus exact tt)) | ((with_reducible apply r_noU); (focus exact rfl); (focus exact rfl)) | ((with_reducible apply r_splitD); (focus exact rfl); (focus exact rfl)) | ((with_reducible apply r_split); (focus exact rfl); (focus exact rfl))))
      exact ⟨j + 1, by omega, by omega, (And.intro rfl (And.intro rfl (And.intro rfl (And.intro rfl (And.intro rfl (And.intro rfl (And.intro rfl (And.intro rfl (And.intro rfl trivial))))))))), (And.intro rfl (And.intro rfl (And.intro (congrArg (fun s => some (Blk.mk _ (spC s))) hst) trivial)))⟩

end Go.Proofs.Ytniilkoggpghdaa
