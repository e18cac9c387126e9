/- Strings of loops: the law. DRAFT until NOTES says that it builds. -/
import Derived.Test.YtfcfmpdpjmbcnaaGreatDoorYd
set_option linter.unusedVariables false
set_option linter.unusedSimpArgs false
namespace Go.Proofs.YtfcfmpdpjmbcnaaGreatDoor
open Go.RowKit
set_option maxRecDepth 20000
set_option maxHeartbeats 8000000

theorem brangesNil : AC Tryz.prog 39 [nilV, nilV] (B true) := fun ok w vs hv hG => by
  obtain ⟨u, us, rfl, h1, h2⟩ := repL_cons.1 hv
  obtain ⟨u2, us, rfl, h2, h3⟩ := repL_cons.1 h2
  exact branges_A [] (by decide) ok w (u :: u2 :: us) (repL_cons'.2 ⟨rep_nilS h1, repL_cons'.2 ⟨rep_nilS h2, h3⟩⟩)
theorem same_A (c : List Rg) (den : Int) (hm : c.length ≤ 140737488355328) : AC Tryz.prog 12 [loV c den, loV c den] (B true) := by
  have h := branges_A c hm
  refine ac_body Tryz.func12 rfl (by kernel_rfl) fun w0 ok => ?_; show AWp _ (ctx0 w0 ok _) _ (ARet _ _ _) (entry _)
  (repeat' (first | (with_reducible first | intro hg | refine mv (by constructor) ?_) | ((with_reducible first | refine zR ?_ ?_ | refine zW mixed ?_ ?_); exact kr) | ((with_reducible apply zK); exact rfl; exact tf) | ((with_reducible apply zCD); exact rfl) | ((with_reducible apply zCN); exact rfl) | ((with_reducible apply zC); exact rfl) | ((with_reducible refine zX ?_ ?_); exact rfl) | ((with_reducible refine zE (And.intro ?_ ?_)); exact kr) | (with_reducible refine zE ?_) | ((with_reducible apply zP); (first | exact dp | exact oc rfl (h))) | ((with_reducible apply zN); exact dn) | ((with_reducible apply zA); exact da) | ((with_reducible apply zS); exact ds) | ((with_reducible apply zY); exact rfl; exact rfl; exact tf) | ((with_reducible apply zG); exact rfl; exact rfl; exact tf) | ((with_reducible apply zU); exact rfl; exact rfl) | ((with_reducible apply zD); exact rfl; exact rfl) | ((with_reducible apply zB); exact rfl; exact rfl)))
  all_goals first | (exfalso; simp at hg; done) | skip
  ((with_reducible first | apply q_retR | apply q_retN); exact rl)
  first | rfl | exact rt_bool (decide_eq_true rfl).symm
theorem same_z : AC Tryz.prog 12 [zLo, zLo] (B true) := by
  refine ac_body Tryz.func12 rfl (by kernel_rfl) fun w0 ok => ?_; show AWp _ (ctx0 w0 ok _) _ (ARet _ _ _) (entry _)
  (repeat' (first | (with_reducible first | intro hg | refine mv (by constructor) ?_) | ((with_reducible first | refine zR ?_ ?_ | refine zW mixed ?_ ?_); exact kr) | ((with_reducible apply zK); exact rfl; exact tf) | ((with_reducible apply zCD); exact rfl) | ((with_reducible apply zCN); exact rfl) | ((with_reducible apply zC); exact rfl) | ((with_reducible refine zX ?_ ?_); exact rfl) | ((with_reducible refine zE (And.intro ?_ ?_)); exact kr) | (with_reducible refine zE ?_) | ((with_reducible apply zP); (first | exact dp | exact oc rfl (brangesNil))) | ((with_reducible apply zN); exact dn) | ((with_reducible apply zA); exact da) | ((with_reducible apply zS); exact ds) | ((with_reducible apply zY); exact rfl; exact rfl; exact tf) | ((with_reducible apply zG); exact rfl; exact rfl; exact tf) | ((with_reducible apply zU); exact rfl; exact rfl) | ((with_reducible apply zD); exact rfl; exact rfl) | ((with_reducible apply zB); exact rfl; exact rfl)))
  all_goals first | (exfalso; simp at hg; done) | skip
  ((with_reducible first | apply q_retR | apply q_retN); exact rl)
  first | rfl | exact rt_bool (decide_eq_true rfl).symm
theorem loop_lenB {s : List UInt8} {x : Int} {l : List Rg} (h : loopP (cutA 59 [] s) = some (x, l)) : l.length ≤ s.length + 1 := by
  rcases loop_cut s with ⟨_, h2⟩ | ⟨d, r, _, hl, h2⟩
  · rw [h2] at h; cases h
  · rw [h2] at h
    cases hd : numS false 2 d with
    | none => rw [hd] at h; cases h
    | some y =>
      cases hp : pairsS (cutA 44 [] r) with
      | none => rw [hd, hp] at h; cases h
      | some k =>
        rw [hd, hp] at h
        injection h with h
        injection h with h1 h2
        subst h1 h2
        have h3 := (pairsS_mem _ _ hp).1
        have h4 := cutA_len 44 r []
        omega
theorem loop_both (s : List UInt8) (hs : s.length ≤ 60000) : ∃ (c1 : DV) (d e : Int), AC Tryz.prog 9 [T8 s] (.tuple [.agg [c1, I d], I e]) ∧ AC Tryz.prog 10 [T8 s] (.tuple [.agg [c1, I d], I e]) ∧ AC Tryz.prog 12 [.agg [c1, I d], .agg [c1, I d]] (B true) := by
  have a := fun res h0 h1 h2 => parseLoop_A s hs res h0 h1 h2
  have b := fun res h0 h1 h2 => refParseLoop_A s hs res h0 h1 h2
  cases hr : loopP (cutA 59 [] s) with
  | none =>
    refine ⟨nilV, 0, 7, a _ (fun _ => rfl) (fun x l h => ?_) (fun x l h => ?_), b _ (fun _ => rfl) (fun x l h => ?_) (fun x l h => ?_), same_z⟩ <;> (rw [hr] at h; cases h)
  | some r =>
    obtain ⟨x, l⟩ := r
    have hl := loop_lenB hr
    have hu : ∀ {x' l'}, loopP (cutA 59 [] s) = some (x', l') → x' = x ∧ l' = l := fun h => by
      rw [hr] at h
      injection h with h
      injection h with h1 h2
      exact ⟨h1.symm, h2.symm⟩
    by_cases he : loE l x = 0
    · refine ⟨rgV l, x, 0, a _ (fun h => by rw [hr] at h; cases h) (fun x' l' h _ => ?_) (fun x' l' h h2 => ?_), b _ (fun h => by rw [hr] at h; cases h) (fun x' l' h _ => ?_) (fun x' l' h h2 => ?_), same_A l x (by omega)⟩
      all_goals obtain ⟨rfl, rfl⟩ := hu h
      · rfl
      · exact absurd he h2
      · rfl
      · exact absurd he h2
    · refine ⟨nilV, 0, loE l x, a _ (fun h => by rw [hr] at h; cases h) (fun x' l' h h2 => ?_) (fun x' l' h _ => ?_), b _ (fun h => by rw [hr] at h; cases h) (fun x' l' h h2 => ?_) (fun x' l' h _ => ?_), same_z⟩
      all_goals obtain ⟨rfl, rfl⟩ := hu h
      · exact absurd h2 he
      · rfl
      · exact absurd h2 he
      · rfl
theorem parse_fmtG (c : List Rg) (den : Int) (hci : ∀ r ∈ c, I64 r.1 ∧ I64 r.2) (hd : I64 den) (h : loE c den = 0) : AC Tryz.prog 9 [T8 (fmtG c den)] (.tuple [loV c den, I 0]) := by
  have hL := loE_ok h
  have hr : loopP (cutA 59 [] (fmtG c den)) = some (den, c) := by
    refine loopP_fmt (fun e => ?_) (fun r hr => ?_) ?_
    · have := hL.l1
      rw [e] at this
      exact absurd this (by decide)
    · have := hL.b r hr
      exact ⟨by omega, by omega⟩
    · have := hL.d
      omega
  have hlen := fmtG_len (c := c) (den := den) (by have := hL.l3; omega) hci hd
  refine parseLoop_A _ (by omega) _ (fun e => by rw [hr] at e; cases e) (fun x l e _ => ?_) (fun x l e h4 => ?_)
  · rw [hr] at e
    injection e with e
    injection e with e1 e2
    rw [e1, e2]
  · rw [hr] at e
    injection e with e
    injection e with e1 e2
    rw [← e1, ← e2] at h4
    exact absurd h h4
theorem gaugeStrings_T (c : List Rg) (den : Int) (s : List UInt8) (hc : c.length ≤ 140737488355328) (hci : ∀ r ∈ c, I64 r.1 ∧ I64 r.2) (hd : I64 den) : AC Tryz.prog 3 [loV c den, T8 s] (B true) := by
  have aw := awake_A
  have hf := few_A c den
  by_cases h5 : (c.length : Int) ≤ 5
  rotate_left
  · rw [decide_eq_false h5] at hf
    refine ac_body Tryz.func3 rfl (by kernel_rfl) fun w0 ok => ?_; show AWp _ (ctx0 w0 ok _) _ (ARet _ _ _) (entry _)
    (repeat' (first | (with_reducible first | intro hg | refine mv (by constructor) ?_) | ((with_reducible first | refine zR ?_ ?_ | refine zW mixed ?_ ?_); exact kr) | ((with_reducible apply zK); exact rfl; exact tf) | ((with_reducible apply zCD); exact rfl) | ((with_reducible apply zCN); exact rfl) | ((with_reducible apply zC); exact rfl) | ((with_reducible refine zX ?_ ?_); exact rfl) | ((with_reducible refine zE (And.intro ?_ ?_)); exact kr) | (with_reducible refine zE ?_) | ((with_reducible apply zP); (first | exact dp | exact oc rfl (aw) | exact oc rfl (hf))) | ((with_reducible apply zN); exact dn) | ((with_reducible apply zA); exact da) | ((with_reducible apply zS); exact ds) | ((with_reducible apply zY); exact rfl; exact rfl; exact tf) | ((with_reducible apply zG); exact rfl; exact rfl; exact tf) | ((with_reducible apply zU); exact rfl; exact rfl) | ((with_reducible apply zD); exact rfl; exact rfl) | ((with_reducible apply zB); exact rfl; exact rfl)))
    ((with_reducible first | apply q_retR | apply q_retN); exact rl)
    rfl
  rw [decide_eq_true h5] at hf
  by_cases hs1 : (100 : Int) < (s.length : Int)
  · refine ac_body Tryz.func3 rfl (by kernel_rfl) fun w0 ok => ?_; show AWp _ (ctx0 w0 ok _) _ (ARet _ _ _) (entry _)
    (repeat' (first | (with_reducible first | intro hg | refine mv (by constructor) ?_) | ((with_reducible first | refine zR ?_ ?_ | refine zW mixed ?_ ?_); exact kr) | ((with_reducible apply zK); exact rfl; exact tf) | ((with_reducible apply zCD); exact rfl) | ((with_reducible apply zCN); exact rfl) | ((with_reducible apply zC); exact rfl) | ((with_reducible refine zX ?_ ?_); exact rfl) | ((with_reducible refine zE (And.intro ?_ ?_)); exact kr) | (with_reducible refine zE ?_) | ((with_reducible apply zP); (first | exact o_lenT8 rfl | exact dp | exact oc rfl (aw) | exact oc rfl (hf))) | ((with_reducible apply zN); exact dn) | ((with_reducible apply zA); exact da) | ((with_reducible apply zS); exact ds) | ((with_reducible apply zY); exact rfl; exact rfl; exact tf) | ((with_reducible apply zG); exact rfl; exact rfl; exact tf) | ((with_reducible apply zU); exact rfl; exact rfl) | ((with_reducible apply zD); exact rfl; exact rfl) | ((with_reducible apply zB); exact rfl; exact rfl)))
    ((with_reducible first | apply q_retR | apply q_retN); exact rl)
    rfl
  have hcp := qcopy_A c den (by omega)
  have f1 := formatLoop_A c den (by omega) hci hd
  have f2 := refFormatLoop_A c den (by omega) hci hd
  have re := qloopErr_A c den hc
  have sm := same_A c den (by omega)
  obtain ⟨c1, d, e, p1, p2, p3⟩ := loop_both s (by omega)
  have k1 := parse_fmtG c den hci hd
  generalize fmtG c den = a at *
  generalize loE c den = u at *
  by_cases hu : u = 0
  · replace k1 := k1 hu
    subst hu
    refine ac_body Tryz.func3 rfl (by kernel_rfl) fun w0 ok => ?_; show AWp _ (ctx0 w0 ok _) _ (ARet _ _ _) (entry _)
    (repeat' (first | (with_reducible first | intro hg | refine mv (by constructor) ?_) | ((with_reducible first | refine zR ?_ ?_ | refine zW mixed ?_ ?_); exact kr) | ((with_reducible apply zK); exact rfl; exact tf) | ((with_reducible apply zCD); exact rfl) | ((with_reducible apply zCN); exact rfl) | ((with_reducible apply zC); exact rfl) | ((with_reducible refine zX ?_ ?_); exact rfl) | ((with_reducible refine zE (And.intro ?_ ?_)); exact kr) | (with_reducible refine zE ?_) | ((with_reducible apply zP); (first | exact o_lenT8 rfl | exact o_neqT rfl rfl | exact dp | exact oc rfl (aw) | exact oc rfl (hf) | exact oc rfl (hcp) | exact oc rfl (f1) | exact oc rfl (f2) | exact oc rfl (re) | exact oc rfl (sm) | exact oc rfl (p1) | exact oc rfl (p2) | exact oc rfl (p3) | exact oc rfl (k1))) | ((with_reducible apply zN); exact dn) | ((with_reducible apply zA); exact da) | ((with_reducible apply zS); exact ds) | ((with_reducible apply zY); exact rfl; exact rfl; exact tf) | ((with_reducible apply zG); exact rfl; exact rfl; exact tf) | ((with_reducible apply zU); exact rfl; exact rfl) | ((with_reducible apply zD); exact rfl; exact rfl) | ((with_reducible apply zB); exact rfl; exact rfl)))
    all_goals first | (exfalso; simp at hg; done) | skip
    ((with_reducible first | apply q_retR | apply q_retN); exact rl)
    rfl
  · refine ac_body Tryz.func3 rfl (by kernel_rfl) fun w0 ok => ?_; show AWp _ (ctx0 w0 ok _) _ (ARet _ _ _) (entry _)
    (repeat' (first | (with_reducible first | intro hg | refine mv (by constructor) ?_) | ((with_reducible first | refine zR ?_ ?_ | refine zW mixed ?_ ?_); exact kr) | ((with_reducible apply zK); exact rfl; exact tf) | ((with_reducible apply zCD); exact rfl) | ((with_reducible apply zCN); exact rfl) | ((with_reducible apply zC); exact rfl) | ((with_reducible refine zX ?_ ?_); exact rfl) | ((with_reducible refine zE (And.intro ?_ ?_)); exact kr) | (with_reducible refine zE ?_) | ((with_reducible apply zP); (first | exact o_lenT8 rfl | exact o_neqT rfl rfl | exact dp | exact oc rfl (aw) | exact oc rfl (hf) | exact oc rfl (hcp) | exact oc rfl (f1) | exact oc rfl (f2) | exact oc rfl (re) | exact oc rfl (sm) | exact oc rfl (p1) | exact oc rfl (p2) | exact oc rfl (p3))) | ((with_reducible apply zN); exact dn) | ((with_reducible apply zA); exact da) | ((with_reducible apply zS); exact ds) | ((with_reducible apply zY); exact rfl; exact rfl; exact tf) | ((with_reducible apply zG); exact rfl; exact rfl; exact tf) | ((with_reducible apply zU); exact rfl; exact rfl) | ((with_reducible apply zD); exact rfl; exact rfl) | ((with_reducible apply zB); exact rfl; exact rfl)))
    all_goals first | (exfalso; simp at hg; done) | exact absurd (by assumption) hu | skip
    ((with_reducible first | apply q_retR | apply q_retN); exact rl)
    rfl
theorem gaugeStrings_A (c : List Rg) (den : Int) (s : ByteArray) (hc : c.length ≤ 140737488355328) (hci : ∀ r ∈ c, I64 r.1 ∧ I64 r.2) (hd : I64 den) : AC Tryz.prog 3 [loV c den, S s] (B true) := by
  obtain ⟨⟨l⟩⟩ := s
  exact gaugeStrings_T c den l hc hci hd

end Go.Proofs.YtfcfmpdpjmbcnaaGreatDoor
