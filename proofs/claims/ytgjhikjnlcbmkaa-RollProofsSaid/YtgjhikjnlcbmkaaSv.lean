/- RollProofs: the law. -/
import Derived.Test.YtgjhikjnlcbmkaaSo
import Derived.Test.YtgjhikjnlcbmkaaSq
import Derived.Test.YtgjhikjnlcbmkaaSr
import Derived.Test.YtgjhikjnlcbmkaaSt
import Derived.Test.YtgjhikjnlcbmkaaW6
set_option linter.unusedVariables false
set_option linter.unusedSimpArgs false
namespace Go.Proofs.Ytgjhikjnlcbmkaa
open Go.RowKit
set_option maxRecDepth 20000
set_option maxHeartbeats 16000000

theorem fitC_at (W : Nat → Nat → Int) (xs : List Int) (K : Nat) (D : Int) (F : Nat → Int) : (fitC W xs K D F).2 = 0 → (fitC W xs K D F).1 = 0 := by
  unfold fitC
  cases okD D
  · intro _; rfl
  · rw [cond_true]
    split
    · intro h; exact absurd (show (2 : Int) = 0 from h) (by decide)
    · split
      · split
        · intro h; exact absurd (show (19 : Int) = 0 from h) (by decide)
        · intro _; rfl
      · intro _; rfl
theorem rollProofs_A (xs : List Int) (nm0 : ByteArray) (p0 o0 : Int) (nm1 : ByteArray) (p1 o1 D x0 x1 x2 x3 : Int) (hm : xs.length ≤ 140737488355328) (hs0 : nm0.size ≤ 140737488355328) (hp0 : I64 p0) (hs1 : nm1.size ≤ 140737488355328) (hp1 : I64 p1) :
    AC Try.prog 4 [isl xs, drums2 nm0 p0 o0 nm1 p1 o1, .agg [I D, I x0, I x1, I x2, I x3]] (B true) := by
  have aw := awake_A
  have fw := few_A xs hm
  by_cases hf : (xs.length : Int) ≤ 242
  case neg =>
    rw [decide_eq_false hf] at fw
    refine ac_body Try.func4 rfl (by kernel_rfl) fun w0 ok => ?_; show AWp _ (ctx0 w0 ok _) _ (ARet _ _ _) (entry _)
    (repeat' (first | (with_reducible first | intro hg | refine mv (by constructor) ?_) | ((with_reducible first | refine zR ?_ ?_ | refine zW mixed ?_ ?_); exact kr) | ((with_reducible apply zK); exact rfl; exact tf) | ((with_reducible apply zCD); exact rfl) | ((with_reducible apply zCN); exact rfl) | ((with_reducible apply zC); exact rfl) | ((with_reducible refine zX ?_ ?_); exact rfl) | ((with_reducible refine zE (And.intro ?_ ?_)); exact kr) | (with_reducible refine zE ?_) | ((with_reducible apply zP); (first | exact dp | exact oc rfl (aw) | exact oc rfl (fw))) | ((with_reducible apply zN); exact dn) | ((with_reducible apply zA); exact da) | ((with_reducible apply zS); exact ds) | ((with_reducible apply zY); exact rfl; exact rfl; exact tf) | ((with_reducible apply zG); exact rfl; exact rfl; exact tf) | ((with_reducible apply zU); exact rfl; exact rfl) | ((with_reducible apply zD); exact rfl; exact rfl) | ((with_reducible apply zB); exact rfl; exact rfl)))
    ((with_reducible first | apply q_retR | apply q_retN); exact rl)
    rfl
  rw [decide_eq_true hf] at fw
  have cp := copyInts_A xs (by omega)
  have pr := bpair_A xs nm0 p0 o0 nm1 p1 o1 hm hs0 hs1
  obtain ⟨F, hF0, hF1, hF2, hF3⟩ : ∃ F : Nat → Int, F 0 = x0 ∧ F 1 = x1 ∧ F 2 = x2 ∧ F 3 = x3 := ⟨fun | 0 => x0 | 1 => x1 | 2 => x2 | _ => x3, rfl, rfl, rfl, rfl⟩
  have hf5 : f5V D F = [I D, I x0, I x1, I x2, I x3] := by unfold f5V; rw [hF0, hF1, hF2, hF3]
  by_cases he : pairErr xs nm0 p0 o0 nm1 p1 o1 = 0
  case neg =>
    have ck := check_err xs nm0 p0 o0 nm1 p1 o1 D F hm hs0 hp0 hs1 hp1 he
    rw [hf5] at ck
    clear hf5 hF0 hF1 hF2 hF3
    generalize pairErr xs nm0 p0 o0 nm1 p1 o1 = e at *
    refine ac_body Try.func4 rfl (by kernel_rfl) fun w0 ok => ?_; show AWp _ (ctx0 w0 ok _) _ (ARet _ _ _) (entry _)
    (repeat' (first | (with_reducible first | intro hg | refine mv (by constructor) ?_) | ((with_reducible first | refine zR ?_ ?_ | refine zW mixed ?_ ?_); exact kr) | ((with_reducible apply zK); exact rfl; exact tf) | ((with_reducible apply zCD); exact rfl) | ((with_reducible apply zCN); exact rfl) | ((with_reducible apply zC); exact rfl) | ((with_reducible refine zX ?_ ?_); exact rfl) | ((with_reducible refine zE (And.intro ?_ ?_)); exact kr) | (with_reducible refine zE ?_) | ((with_reducible apply zP); (first | exact dp | exact oc rfl (aw) | exact oc rfl (fw) | exact oc rfl (cp) | exact oc rfl (pr) | exact oc rfl (ck))) | ((with_reducible apply zN); exact dn) | ((with_reducible apply zA); exact da) | ((with_reducible apply zS); exact ds) | ((with_reducible apply zY); exact rfl; exact rfl; exact tf) | ((with_reducible apply zG); exact rfl; exact rfl; exact tf) | ((with_reducible apply zU); exact rfl; exact rfl) | ((with_reducible apply zD); exact rfl; exact rfl) | ((with_reducible apply zB); exact rfl; exact rfl)))
    ((with_reducible first | apply q_retR | apply q_retN); exact rl)
    rfl
  rw [he] at pr
  have c1 := check_A xs nm0 p0 o0 nm1 p1 o1 D F hs0 hp0 hs1 hp1 he (fun k i => W4 p0 o0 p1 o1 k i) (fun _ _ => rfl) _ rfl
  have c2 := refCheck_A xs nm0 p0 o0 nm1 p1 o1 D F he (fun k i => W4 p0 o0 p1 o1 k i) (fun _ _ => rfl) _ rfl
  rw [hf5] at c1 c2
  by_cases h2 : (fitC (fun k i => W4 p0 o0 p1 o1 k i) xs xs.length D F).2 = 0
  case neg =>
    generalize (fitC (fun k i => W4 p0 o0 p1 o1 k i) xs xs.length D F).2 = e at *
    generalize (fitC (fun k i => W4 p0 o0 p1 o1 k i) xs xs.length D F).1 = at' at *
    clear he hf5 hF0 hF1 hF2 hF3
    refine ac_body Try.func4 rfl (by kernel_rfl) fun w0 ok => ?_; show AWp _ (ctx0 w0 ok _) _ (ARet _ _ _) (entry _)
    (repeat' (first | (with_reducible first | intro hg | refine mv (by constructor) ?_) | ((with_reducible first | refine zR ?_ ?_ | refine zW mixed ?_ ?_); exact kr) | ((with_reducible apply zK); exact rfl; exact tf) | ((with_reducible apply zCD); exact rfl) | ((with_reducible apply zCN); exact rfl) | ((with_reducible apply zC); exact rfl) | ((with_reducible refine zX ?_ ?_); exact rfl) | ((with_reducible refine zE (And.intro ?_ ?_)); exact kr) | (with_reducible refine zE ?_) | ((with_reducible apply zP); (first | exact dp | exact oc rfl (aw) | exact oc rfl (fw) | exact oc rfl (cp) | exact oc rfl (pr) | exact oc rfl (c1) | exact oc rfl (c2))) | ((with_reducible apply zN); exact dn) | ((with_reducible apply zA); exact da) | ((with_reducible apply zS); exact ds) | ((with_reducible apply zY); exact rfl; exact rfl; exact tf) | ((with_reducible apply zG); exact rfl; exact rfl; exact tf) | ((with_reducible apply zU); exact rfl; exact rfl) | ((with_reducible apply zD); exact rfl; exact rfl) | ((with_reducible apply zB); exact rfl; exact rfl)))
    ((with_reducible first | apply q_retR | apply q_retN); exact rl)
    rfl
  have h1 := fitC_at _ _ _ _ _ h2
  rw [h1, h2] at c1 c2
  have hfit : AC Try.prog 11 [isl xs, drums2 nm0 p0 o0 nm1 p1 o1] (.tuple [fit0, I 12]) ∨ AC Try.prog 11 [isl xs, drums2 nm0 p0 o0 nm1 p1 o1] (.tuple [.agg [I D, I x0, I x1, I x2, I x3], I 0]) := by
    have v := fun M R hM hR res => refFit_A xs nm0 p0 o0 nm1 p1 o1 he M R hM hR res
    obtain ⟨e1, e2, e3⟩ := pair_ok he
    obtain ⟨_, hml, hB⟩ := rec_ok e1
    have hE := eq_bnd (W := fun k i => W4 p0 o0 p1 o1 k i) (fun k i => W4_one _ _ _ _ _ _) hB hml
    by_cases hz : fitDen (eqM (fun k i => W4 p0 o0 p1 o1 k i) xs.length) = 0
    · exact .inl (v _ _ rfl rfl _ (fun _ => rfl) (fun h => absurd hz h) (fun h => absurd hz h))
    obtain ⟨ha, hD, hQ⟩ := fit_unique (W := fun k i => W4 p0 o0 p1 o1 k i) rfl rfl hE hz h2
    refine .inr (v _ _ rfl rfl _ (fun h => absurd h hz) (fun _ h => by rw [ha] at h; cases h) (fun _ _ => ?_))
    unfold f5V
    rw [hD, hQ 0 (by omega), hQ 1 (by omega), hQ 2 (by omega), hQ 3 (by omega), hF0, hF1, hF2, hF3]
  clear he hf5 hF0 hF1 hF2 hF3 h1 h2 hm hs0 hp0 hs1 hp1 hf
  rcases hfit with f1 | f1
  · refine ac_body Try.func4 rfl (by kernel_rfl) fun w0 ok => ?_; show AWp _ (ctx0 w0 ok _) _ (ARet _ _ _) (entry _)
    (repeat' (first | (with_reducible first | intro hg | refine mv (by constructor) ?_) | ((with_reducible first | refine zR ?_ ?_ | refine zW mixed ?_ ?_); exact kr) | ((with_reducible apply zK); exact rfl; exact tf) | ((with_reducible apply zCD); exact rfl) | ((with_reducible apply zCN); exact rfl) | ((with_reducible apply zC); exact rfl) | ((with_reducible refine zX ?_ ?_); exact rfl) | ((with_reducible refine zE (And.intro ?_ ?_)); exact kr) | (with_reducible refine zE ?_) | ((with_reducible apply zP); (first | exact dp | exact oc rfl (aw) | exact oc rfl (fw) | exact oc rfl (cp) | exact oc rfl (pr) | exact oc rfl (c1) | exact oc rfl (c2) | exact oc rfl (f1))) | ((with_reducible apply zN); exact dn) | ((with_reducible apply zA); exact da) | ((with_reducible apply zS); exact ds) | ((with_reducible apply zY); exact rfl; exact rfl; exact tf) | ((with_reducible apply zG); exact rfl; exact rfl; exact tf) | ((with_reducible apply zU); exact rfl; exact rfl) | ((with_reducible apply zD); exact rfl; exact rfl) | ((with_reducible apply zB); exact rfl; exact rfl)))
    ((with_reducible first | apply q_retR | apply q_retN); exact rl)
    rfl
  · have hl : [D, x0, x1, x2, x3] = [D, x0, x1, x2, x3] := rfl
    refine ac_body Try.func4 rfl (by kernel_rfl) fun w0 ok => ?_; show AWp _ (ctx0 w0 ok _) _ (ARet _ _ _) (entry _)
    (repeat' (first | (with_reducible first | intro hg | refine mv (by constructor) ?_) | ((with_reducible first | refine zR ?_ ?_ | refine zW mixed ?_ ?_); exact kr) | ((with_reducible apply zK); exact rfl; exact tf) | ((with_reducible apply zCD); exact rfl) | ((with_reducible apply zCN); exact rfl) | ((with_reducible apply zC); exact rfl) | ((with_reducible refine zX ?_ ?_); exact rfl) | ((with_reducible refine zE (And.intro ?_ ?_)); exact kr) | (with_reducible refine zE ?_) | ((with_reducible apply zP); (first | exact dp | exact oc rfl (aw) | exact oc rfl (fw) | exact oc rfl (cp) | exact oc rfl (pr) | exact oc rfl (c1) | exact oc rfl (c2) | exact oc rfl (f1))) | ((with_reducible apply zN); exact dn) | ((with_reducible apply zA); exact da) | ((with_reducible apply zS); exact ds) | ((with_reducible apply zY); exact rfl; exact rfl; exact tf) | ((with_reducible apply zG); exact rfl; exact rfl; exact tf) | ((with_reducible apply zU); exact rfl; exact rfl) | ((with_reducible apply zD); exact rfl; exact rfl) | ((with_reducible apply zB); exact rfl; exact rfl)))
    ((with_reducible first | apply q_retR | apply q_retN); exact rl)
    exact rt_bool (by simp)

end Go.Proofs.Ytgjhikjnlcbmkaa
