/- Strings of rules and profiles: the law. -/
import Derived.Test.YtagpmpbmfjaiiaaGreatDoorSm
set_option linter.unusedVariables false
set_option linter.unusedSimpArgs false
namespace Go.Proofs.YtagpmpbmfjaiiaaGreatDoor
open Go.RowKit
set_option maxRecDepth 20000
set_option maxHeartbeats 8000000

theorem flatStrings_T (T : List Int) (A : List Act3) (p : List Int) (s : List UInt8) (hT : ∀ v ∈ T, I64 v) (hA : ∀ a ∈ A, ∀ v ∈ actL a, I64 v) (hp : ∀ v ∈ p, I64 v) : AC Tryz.prog 3 [rulV T A, isl p, T8 s] (B true) := by
  have aw := awake_A
  have hf := few_A T A
  have hsh := short_A p
  cases hq : fewP T A
  · rw [hq] at hf
    refine ac_body Tryz.func3 rfl (by kernel_rfl) fun w0 ok => ?_; show AWp _ (ctx0 w0 ok _) _ (ARet _ _ _) (entry _)
    (repeat' (first | (with_reducible first | intro hg | refine mv (by constructor) ?_) | ((with_reducible first | refine zR ?_ ?_ | refine zW mixed ?_ ?_); exact kr) | ((with_reducible apply zK); exact rfl; exact tf) | ((with_reducible apply zCD); exact rfl) | ((with_reducible apply zCN); exact rfl) | ((with_reducible apply zC); exact rfl) | ((with_reducible refine zX ?_ ?_); exact rfl) | ((with_reducible refine zE (And.intro ?_ ?_)); exact kr) | (with_reducible refine zE ?_) | ((with_reducible apply zP); (first | exact dp | exact oc rfl (aw) | exact oc rfl (hf))) | ((with_reducible apply zN); exact dn) | ((with_reducible apply zA); exact da) | ((with_reducible apply zS); exact ds) | ((with_reducible apply zY); exact rfl; exact rfl; exact tf) | ((with_reducible apply zG); exact rfl; exact rfl; exact tf) | ((with_reducible apply zU); exact rfl; exact rfl) | ((with_reducible apply zD); exact rfl; exact rfl) | ((with_reducible apply zB); exact rfl; exact rfl)))
    ((with_reducible first | apply q_retR | apply q_retN); exact rl)
    rfl
  rw [hq] at hf
  by_cases hp1 : (p.length : Int) ≤ 12
  rotate_left
  · rw [decide_eq_false hp1] at hsh
    refine ac_body Tryz.func3 rfl (by kernel_rfl) fun w0 ok => ?_; show AWp _ (ctx0 w0 ok _) _ (ARet _ _ _) (entry _)
    (repeat' (first | (with_reducible first | intro hg | refine mv (by constructor) ?_) | ((with_reducible first | refine zR ?_ ?_ | refine zW mixed ?_ ?_); exact kr) | ((with_reducible apply zK); exact rfl; exact tf) | ((with_reducible apply zCD); exact rfl) | ((with_reducible apply zCN); exact rfl) | ((with_reducible apply zC); exact rfl) | ((with_reducible refine zX ?_ ?_); exact rfl) | ((with_reducible refine zE (And.intro ?_ ?_)); exact kr) | (with_reducible refine zE ?_) | ((with_reducible apply zP); (first | exact dp | exact oc rfl (aw) | exact oc rfl (hf) | exact oc rfl (hsh))) | ((with_reducible apply zN); exact dn) | ((with_reducible apply zA); exact da) | ((with_reducible apply zS); exact ds) | ((with_reducible apply zY); exact rfl; exact rfl; exact tf) | ((with_reducible apply zG); exact rfl; exact rfl; exact tf) | ((with_reducible apply zU); exact rfl; exact rfl) | ((with_reducible apply zD); exact rfl; exact rfl) | ((with_reducible apply zB); exact rfl; exact rfl)))
    ((with_reducible first | apply q_retR | apply q_retN); exact rl)
    rfl
  rw [decide_eq_true hp1] at hsh
  by_cases hs1 : (300 : Int) < (s.length : Int)
  · refine ac_body Tryz.func3 rfl (by kernel_rfl) fun w0 ok => ?_; show AWp _ (ctx0 w0 ok _) _ (ARet _ _ _) (entry _)
    (repeat' (first | (with_reducible first | intro hg | refine mv (by constructor) ?_) | ((with_reducible first | refine zR ?_ ?_ | refine zW mixed ?_ ?_); exact kr) | ((with_reducible apply zK); exact rfl; exact tf) | ((with_reducible apply zCD); exact rfl) | ((with_reducible apply zCN); exact rfl) | ((with_reducible apply zC); exact rfl) | ((with_reducible refine zX ?_ ?_); exact rfl) | ((with_reducible refine zE (And.intro ?_ ?_)); exact kr) | (with_reducible refine zE ?_) | ((with_reducible apply zP); (first | exact o_lenT8 rfl | exact dp | exact oc rfl (aw) | exact oc rfl (hf) | exact oc rfl (hsh))) | ((with_reducible apply zN); exact dn) | ((with_reducible apply zA); exact da) | ((with_reducible apply zS); exact ds) | ((with_reducible apply zY); exact rfl; exact rfl; exact tf) | ((with_reducible apply zG); exact rfl; exact rfl; exact tf) | ((with_reducible apply zU); exact rfl; exact rfl) | ((with_reducible apply zD); exact rfl; exact rfl) | ((with_reducible apply zB); exact rfl; exact rfl)))
    ((with_reducible first | apply q_retR | apply q_retN); exact rl)
    rfl
  have hfo := fewP_ok hq
  have hlo := hfo.len
  have hcr := hfo.copy
  have hcp := copyInts_A p (by omega)
  have hfm : FmtOk T A := ⟨by have := hfo.t; omega, by have := hfo.a; omega, fun a ha => by have := hfo.e a ha; omega, hT, hA⟩
  have f1 := formatRules_A T A hfm
  have f2 := refFormatRules_A T A hfm
  have f3 := formatProfile_A p (by omega) hp
  have f4 := refFormatProfile_A p (by omega) hp
  have re := rulesErr_A T A hlo
  have cp := refPr_A p (by omega)
  have sr := sameRules_A T A hlo
  have si := ints_same p (by omega)
  obtain ⟨c1, c2, e, p1, p2, p3⟩ := prs_both s (by omega)
  obtain ⟨y, f, q1, q2, q3⟩ := prp_both s (by omega)
  have k1 := parse_fmt T A
  have k2 := parse_fmtP p
  generalize fmtR T A = a at *
  generalize fmtL p = b at *
  generalize (rulE T A).2 = u at *
  generalize prE p = v at *
  clear hT hA hp hfo hlo hfm hq
  by_cases hu : u = 0
  · replace k1 := k1 hu
    subst hu
    by_cases hv : v = 0
    · replace k2 := k2 hv
      subst hv
      refine ac_body Tryz.func3 rfl (by kernel_rfl) fun w0 ok => ?_; show AWp _ (ctx0 w0 ok _) _ (ARet _ _ _) (entry _)
      (repeat' (first | (with_reducible first | intro hg | refine mv (by constructor) ?_) | ((with_reducible first | refine zR ?_ ?_ | refine zW mixed ?_ ?_); exact kr) | ((with_reducible apply zK); exact rfl; exact tf) | ((with_reducible apply zCD); exact rfl) | ((with_reducible apply zCN); exact rfl) | ((with_reducible apply zC); exact rfl) | ((with_reducible refine zX ?_ ?_); exact rfl) | ((with_reducible refine zE (And.intro ?_ ?_)); exact kr) | (with_reducible refine zE ?_) | ((with_reducible apply zP); (first | exact o_lenT8 rfl | exact o_neqT rfl rfl | exact dp | exact oc rfl (aw) | exact oc rfl (hf) | exact oc rfl (hsh) | exact oc rfl (hcr) | exact oc rfl (hcp) | exact oc rfl (f1) | exact oc rfl (f2) | exact oc rfl (f3) | exact oc rfl (f4) | exact oc rfl (re) | exact oc rfl (cp) | exact oc rfl (sr) | exact oc rfl (si) | exact oc rfl (p1) | exact oc rfl (p2) | exact oc rfl (p3) | exact oc rfl (q1) | exact oc rfl (q2) | exact oc rfl (q3) | exact oc rfl (k1) | exact oc rfl (k2))) | ((with_reducible apply zN); exact dn) | ((with_reducible apply zA); exact da) | ((with_reducible apply zS); exact ds) | ((with_reducible apply zY); exact rfl; exact rfl; exact tf) | ((with_reducible apply zG); exact rfl; exact rfl; exact tf) | ((with_reducible apply zU); exact rfl; exact rfl) | ((with_reducible apply zD); exact rfl; exact rfl) | ((with_reducible apply zB); exact rfl; exact rfl)))
      all_goals first | (exfalso; simp at hg; done) | exact absurd (by assumption) hu | exact absurd (by assumption) hv | skip
      ((with_reducible first | apply q_retR | apply q_retN); exact rl)
      rfl
    · refine ac_body Tryz.func3 rfl (by kernel_rfl) fun w0 ok => ?_; show AWp _ (ctx0 w0 ok _) _ (ARet _ _ _) (entry _)
      (repeat' (first | (with_reducible first | intro hg | refine mv (by constructor) ?_) | ((with_reducible first | refine zR ?_ ?_ | refine zW mixed ?_ ?_); exact kr) | ((with_reducible apply zK); exact rfl; exact tf) | ((with_reducible apply zCD); exact rfl) | ((with_reducible apply zCN); exact rfl) | ((with_reducible apply zC); exact rfl) | ((with_reducible refine zX ?_ ?_); exact rfl) | ((with_reducible refine zE (And.intro ?_ ?_)); exact kr) | (with_reducible refine zE ?_) | ((with_reducible apply zP); (first | exact o_lenT8 rfl | exact o_neqT rfl rfl | exact dp | exact oc rfl (aw) | exact oc rfl (hf) | exact oc rfl (hsh) | exact oc rfl (hcr) | exact oc rfl (hcp) | exact oc rfl (f1) | exact oc rfl (f2) | exact oc rfl (f3) | exact oc rfl (f4) | exact oc rfl (re) | exact oc rfl (cp) | exact oc rfl (sr) | exact oc rfl (si) | exact oc rfl (p1) | exact oc rfl (p2) | exact oc rfl (p3) | exact oc rfl (q1) | exact oc rfl (q2) | exact oc rfl (q3) | exact oc rfl (k1))) | ((with_reducible apply zN); exact dn) | ((with_reducible apply zA); exact da) | ((with_reducible apply zS); exact ds) | ((with_reducible apply zY); exact rfl; exact rfl; exact tf) | ((with_reducible apply zG); exact rfl; exact rfl; exact tf) | ((with_reducible apply zU); exact rfl; exact rfl) | ((with_reducible apply zD); exact rfl; exact rfl) | ((with_reducible apply zB); exact rfl; exact rfl)))
      all_goals first | (exfalso; simp at hg; done) | exact absurd (by assumption) hu | exact absurd (by assumption) hv | skip
      ((with_reducible first | apply q_retR | apply q_retN); exact rl)
      rfl
  · by_cases hv : v = 0
    · replace k2 := k2 hv
      subst hv
      refine ac_body Tryz.func3 rfl (by kernel_rfl) fun w0 ok => ?_; show AWp _ (ctx0 w0 ok _) _ (ARet _ _ _) (entry _)
      (repeat' (first | (with_reducible first | intro hg | refine mv (by constructor) ?_) | ((with_reducible first | refine zR ?_ ?_ | refine zW mixed ?_ ?_); exact kr) | ((with_reducible apply zK); exact rfl; exact tf) | ((with_reducible apply zCD); exact rfl) | ((with_reducible apply zCN); exact rfl) | ((with_reducible apply zC); exact rfl) | ((with_reducible refine zX ?_ ?_); exact rfl) | ((with_reducible refine zE (And.intro ?_ ?_)); exact kr) | (with_reducible refine zE ?_) | ((with_reducible apply zP); (first | exact o_lenT8 rfl | exact o_neqT rfl rfl | exact dp | exact oc rfl (aw) | exact oc rfl (hf) | exact oc rfl (hsh) | exact oc rfl (hcr) | exact oc rfl (hcp) | exact oc rfl (f1) | exact oc rfl (f2) | exact oc rfl (f3) | exact oc rfl (f4) | exact oc rfl (re) | exact oc rfl (cp) | exact oc rfl (sr) | exact oc rfl (si) | exact oc rfl (p1) | exact oc rfl (p2) | exact oc rfl (p3) | exact oc rfl (q1) | exact oc rfl (q2) | exact oc rfl (q3) | exact oc rfl (k2))) | ((with_reducible apply zN); exact dn) | ((with_reducible apply zA); exact da) | ((with_reducible apply zS); exact ds) | ((with_reducible apply zY); exact rfl; exact rfl; exact tf) | ((with_reducible apply zG); exact rfl; exact rfl; exact tf) | ((with_reducible apply zU); exact rfl; exact rfl) | ((with_reducible apply zD); exact rfl; exact rfl) | ((with_reducible apply zB); exact rfl; exact rfl)))
      all_goals first | (exfalso; simp at hg; done) | exact absurd (by assumption) hu | exact absurd (by assumption) hv | skip
      ((with_reducible first | apply q_retR | apply q_retN); exact rl)
      rfl
    · refine ac_body Tryz.func3 rfl (by kernel_rfl) fun w0 ok => ?_; show AWp _ (ctx0 w0 ok _) _ (ARet _ _ _) (entry _)
      (repeat' (first | (with_reducible first | intro hg | refine mv (by constructor) ?_) | ((with_reducible first | refine zR ?_ ?_ | refine zW mixed ?_ ?_); exact kr) | ((with_reducible apply zK); exact rfl; exact tf) | ((with_reducible apply zCD); exact rfl) | ((with_reducible apply zCN); exact rfl) | ((with_reducible apply zC); exact rfl) | ((with_reducible refine zX ?_ ?_); exact rfl) | ((with_reducible refine zE (And.intro ?_ ?_)); exact kr) | (with_reducible refine zE ?_) | ((with_reducible apply zP); (first | exact o_lenT8 rfl | exact o_neqT rfl rfl | exact dp | exact oc rfl (aw) | exact oc rfl (hf) | exact oc rfl (hsh) | exact oc rfl (hcr) | exact oc rfl (hcp) | exact oc rfl (f1) | exact oc rfl (f2) | exact oc rfl (f3) | exact oc rfl (f4) | exact oc rfl (re) | exact oc rfl (cp) | exact oc rfl (sr) | exact oc rfl (si) | exact oc rfl (p1) | exact oc rfl (p2) | exact oc rfl (p3) | exact oc rfl (q1) | exact oc rfl (q2) | exact oc rfl (q3))) | ((with_reducible apply zN); exact dn) | ((with_reducible apply zA); exact da) | ((with_reducible apply zS); exact ds) | ((with_reducible apply zY); exact rfl; exact rfl; exact tf) | ((with_reducible apply zG); exact rfl; exact rfl; exact tf) | ((with_reducible apply zU); exact rfl; exact rfl) | ((with_reducible apply zD); exact rfl; exact rfl) | ((with_reducible apply zB); exact rfl; exact rfl)))
      all_goals first | (exfalso; simp at hg; done) | exact absurd (by assumption) hu | exact absurd (by assumption) hv | skip
      ((with_reducible first | apply q_retR | apply q_retN); exact rl)
      rfl
theorem flatStrings_A (T : List Int) (A : List Act3) (p : List Int) (s : ByteArray) (hT : ∀ v ∈ T, I64 v) (hA : ∀ a ∈ A, I64 a.lo ∧ I64 a.hi ∧ a.eff.length ≤ 140737488355328 ∧ ∀ x ∈ a.eff, I64 x) (hp : ∀ v ∈ p, I64 v) : AC Tryz.prog 3 [rulV T A, isl p, S s] (B true) := by
  obtain ⟨⟨l⟩⟩ := s
  refine flatStrings_T T A p l hT (fun a ha v hv => ?_) hp
  obtain ⟨h1, h2, _, h3⟩ := hA a ha
  rcases List.mem_cons.1 hv with rfl | hv
  · exact h1
  · rcases List.mem_cons.1 hv with rfl | hv
    · exact h2
    · exact h3 v hv

end Go.Proofs.YtagpmpbmfjaiiaaGreatDoor
