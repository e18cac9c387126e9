/- RollFits: the law. -/
import Derived.Test.YtgjhikjnlcbmkaaSo
import Derived.Test.YtgjhikjnlcbmkaaSr
import Derived.Test.YtgjhikjnlcbmkaaSt
import Derived.Test.YtgjhikjnlcbmkaaW6
set_option linter.unusedVariables false
set_option linter.unusedSimpArgs false
namespace Go.Proofs.Ytgjhikjnlcbmkaa
open Go.RowKit
set_option maxRecDepth 20000
set_option maxHeartbeats 16000000

abbrev two4 (a b c d : Int) : DV := .agg [I a, I b, I c, I d]
theorem ampErr_two (re im : Int) : ampErr re im = 0 ∨ ampErr re im = 2 := by
  unfold ampErr
  cases inR re (-1000000) 1000000 && inR im (-1000000) 1000000
  · exact .inr rfl
  · exact .inl rfl
theorem rollFits_A (xs : List Int) (nm0 : ByteArray) (p0 o0 : Int) (nm1 : ByteArray) (p1 o1 a b c d : Int) (hm : xs.length ≤ 140737488355328) (hs0 : nm0.size ≤ 140737488355328) (hp0 : I64 p0) (hs1 : nm1.size ≤ 140737488355328) (hp1 : I64 p1) :
    AC Try.prog 3 [isl xs, drums2 nm0 p0 o0 nm1 p1 o1, two4 a b c d] (B true) := by
  have aw := awake_A
  have fw := few_A xs hm
  by_cases hf : (xs.length : Int) ≤ 242
  case neg =>
    rw [decide_eq_false hf] at fw
    refine ac_body Try.func3 rfl (by kernel_rfl) fun w0 ok => ?_; show AWp _ (ctx0 w0 ok _) _ (ARet _ _ _) (entry _)
    (repeat' (first | (with_reducible first | intro hg | refine mv (by constructor) ?_) | ((with_reducible first | refine zR ?_ ?_ | refine zW mixed ?_ ?_); exact kr) | ((with_reducible apply zK); exact rfl; exact tf) | ((with_reducible apply zCD); exact rfl) | ((with_reducible apply zCN); exact rfl) | ((with_reducible apply zC); exact rfl) | ((with_reducible refine zX ?_ ?_); exact rfl) | ((with_reducible refine zE (And.intro ?_ ?_)); exact kr) | (with_reducible refine zE ?_) | ((with_reducible apply zP); (first | exact dp | exact oc rfl (aw) | exact oc rfl (fw))) | ((with_reducible apply zN); exact dn) | ((with_reducible apply zA); exact da) | ((with_reducible apply zS); exact ds) | ((with_reducible apply zY); exact rfl; exact rfl; exact tf) | ((with_reducible apply zG); exact rfl; exact rfl; exact tf) | ((with_reducible apply zU); exact rfl; exact rfl) | ((with_reducible apply zD); exact rfl; exact rfl) | ((with_reducible apply zB); exact rfl; exact rfl)))
    ((with_reducible first | apply q_retR | apply q_retN); exact rl)
    rfl
  rw [decide_eq_true hf] at fw
  have cp := copyInts_A xs (by omega)
  have pr := bpair_A xs nm0 p0 o0 nm1 p1 o1 hm hs0 hs1
  by_cases he : pairErr xs nm0 p0 o0 nm1 p1 o1 = 0
  case neg =>
    have ft := fitOf_err xs nm0 p0 o0 nm1 p1 o1 hm hs0 hp0 hs1 hp1 he
    have er := errorOf_err xs nm0 p0 o0 nm1 p1 o1 a b c d hm hs0 hp0 hs1 hp1 (by rw [fst0_ne he]; exact he)
    rw [fst0_ne he] at er
    generalize pairErr xs nm0 p0 o0 nm1 p1 o1 = e at *
    refine ac_body Try.func3 rfl (by kernel_rfl) fun w0 ok => ?_; show AWp _ (ctx0 w0 ok _) _ (ARet _ _ _) (entry _)
    (repeat' (first | (with_reducible first | intro hg | refine mv (by constructor) ?_) | ((with_reducible first | refine zR ?_ ?_ | refine zW mixed ?_ ?_); exact kr) | ((with_reducible apply zK); exact rfl; exact tf) | ((with_reducible apply zCD); exact rfl) | ((with_reducible apply zCN); exact rfl) | ((with_reducible apply zC); exact rfl) | ((with_reducible refine zX ?_ ?_); exact rfl) | ((with_reducible refine zE (And.intro ?_ ?_)); exact kr) | (with_reducible refine zE ?_) | ((with_reducible apply zP); (first | exact dp | exact oc rfl (aw) | exact oc rfl (fw) | exact oc rfl (cp) | exact oc rfl (pr) | exact oc rfl (ft) | exact oc rfl (er))) | ((with_reducible apply zN); exact dn) | ((with_reducible apply zA); exact da) | ((with_reducible apply zS); exact ds) | ((with_reducible apply zY); exact rfl; exact rfl; exact tf) | ((with_reducible apply zG); exact rfl; exact rfl; exact tf) | ((with_reducible apply zU); exact rfl; exact rfl) | ((with_reducible apply zD); exact rfl; exact rfl) | ((with_reducible apply zB); exact rfl; exact rfl)))
    ((with_reducible first | apply q_retR | apply q_retN); exact rl)
    rfl
  rw [he] at pr
  have q0 := bampErr_A a b
  have q1 := bampErr_A c d
  have hamp : (∃ n, AC Try.prog 9 [isl xs, drums2 nm0 p0 o0 nm1 p1 o1, two4 a b c d] (.tuple [I n, I 0]) ∧ AC Try.prog 14 [isl xs, drums2 nm0 p0 o0 nm1 p1 o1, two4 a b c d] (I n) ∧ ampErr a b = 0 ∧ ampErr c d = 0) ∨
      (AC Try.prog 9 [isl xs, drums2 nm0 p0 o0 nm1 p1 o1, two4 a b c d] (.tuple [I 0, I 2]) ∧ (ampErr a b = 2 ∨ (ampErr a b = 0 ∧ ampErr c d = 2))) := by
    rcases ampErr_two a b with h0 | h0
    · rcases ampErr_two c d with h1 | h1
      · exact .inl ⟨_, errorOf_ok xs nm0 p0 o0 nm1 p1 o1 a b c d hs0 hp0 hs1 hp1 he h0 h1, refError_A xs nm0 p0 o0 nm1 p1 o1 a b c d hs0 hs1 he h0 h1, h0, h1⟩
      · refine .inr ⟨?_, .inr ⟨h0, h1⟩⟩
        have er := errorOf_err xs nm0 p0 o0 nm1 p1 o1 a b c d hm hs0 hp0 hs1 hp1 (by rw [he, h0, h1]; decide)
        rw [he, h0, h1] at er
        exact er
    · refine .inr ⟨?_, .inl h0⟩
      have er := errorOf_err xs nm0 p0 o0 nm1 p1 o1 a b c d hm hs0 hp0 hs1 hp1 (by rw [he, h0]; show (2 : Int) ≠ 0; decide)
      rw [he, h0] at er
      exact er
  have hfit : (AC Try.prog 7 [isl xs, drums2 nm0 p0 o0 nm1 p1 o1] (.tuple [fit0, I 12]) ∧ AC Try.prog 11 [isl xs, drums2 nm0 p0 o0 nm1 p1 o1] (.tuple [fit0, I 12])) ∨ (AC Try.prog 7 [isl xs, drums2 nm0 p0 o0 nm1 p1 o1] (.tuple [fit0, I 8]) ∧ AC Try.prog 11 [isl xs, drums2 nm0 p0 o0 nm1 p1 o1] (.tuple [fit0, I 8])) ∨
      (∃ D f0 f1 f2 f3 : Int, AC Try.prog 7 [isl xs, drums2 nm0 p0 o0 nm1 p1 o1] (.tuple [.agg [I D, I f0, I f1, I f2, I f3], I 0]) ∧ AC Try.prog 11 [isl xs, drums2 nm0 p0 o0 nm1 p1 o1] (.tuple [.agg [I D, I f0, I f1, I f2, I f3], I 0]) ∧ AC Try.prog 12 [isl xs, drums2 nm0 p0 o0 nm1 p1 o1, .agg [I D, I f0, I f1, I f2, I f3]] (.tuple [I 0, I 0])) := by
    have u := fun M R hM hR res => fitOf_A xs nm0 p0 o0 nm1 p1 o1 hs0 hp0 hs1 hp1 he M R hM hR res
    have v := fun M R hM hR res => refFit_A xs nm0 p0 o0 nm1 p1 o1 he M R hM hR res
    obtain ⟨e1, e2, e3⟩ := pair_ok he
    obtain ⟨_, hml, hB⟩ := rec_ok e1
    have hE := eq_bnd (W := fun k i => W4 p0 o0 p1 o1 k i) (fun k i => W4_one _ _ _ _ _ _) hB hml
    by_cases hz : fitDen (eqM (fun k i => W4 p0 o0 p1 o1 k i) xs.length) = 0
    · exact .inl ⟨u _ _ rfl rfl _ (fun _ => rfl) (fun h => absurd hz h) (fun h => absurd hz h), v _ _ rfl rfl _ (fun _ => rfl) (fun h => absurd hz h) (fun h => absurd hz h)⟩
    cases ha : fitAll (eqM (fun k i => W4 p0 o0 p1 o1 k i) xs.length) (eqR (fun k i => W4 p0 o0 p1 o1 k i) xs xs.length)
    · exact .inr (.inl ⟨u _ _ rfl rfl _ (fun h => absurd h hz) (fun _ _ => rfl) (fun _ h => by rw [ha] at h; cases h), v _ _ rfl rfl _ (fun h => absurd h hz) (fun _ _ => rfl) (fun _ h => by rw [ha] at h; cases h)⟩)
    · have hacc := fit_accept (W := fun k i => W4 p0 o0 p1 o1 k i) rfl rfl hE hz ha
      exact .inr (.inr ⟨_, _, _, _, _, u _ _ rfl rfl _ (fun h => absurd h hz) (fun _ h => by rw [ha] at h; cases h) (fun _ _ => rfl), v _ _ rfl rfl _ (fun h => absurd h hz) (fun _ h => by rw [ha] at h; cases h) (fun _ _ => rfl), check_A xs nm0 p0 o0 nm1 p1 o1 _ _ hs0 hp0 hs1 hp1 he _ (fun _ _ => rfl) _ (by rw [hacc])⟩)
  clear he hm hs0 hp0 hs1 hp1 hf
  rcases hfit with ⟨f1, f2⟩ | ⟨f1, f2⟩ | ⟨D, x0, x1, x2, x3, f1, f2, f3⟩
  · rcases hamp with ⟨n, g1, g2, h0, h1⟩ | ⟨g1, h | ⟨h0, h1⟩⟩
    · rw [h0] at q0; rw [h1] at q1
      have hn : n = n := rfl
      refine ac_body Try.func3 rfl (by kernel_rfl) fun w0 ok => ?_; show AWp _ (ctx0 w0 ok _) _ (ARet _ _ _) (entry _)
      (repeat' (first | (with_reducible first | intro hg | refine mv (by constructor) ?_) | ((with_reducible first | refine zR ?_ ?_ | refine zW mixed ?_ ?_); exact kr) | ((with_reducible apply zK); exact rfl; exact tf) | ((with_reducible apply zCD); exact rfl) | ((with_reducible apply zCN); exact rfl) | ((with_reducible apply zC); exact rfl) | ((with_reducible refine zX ?_ ?_); exact rfl) | ((with_reducible refine zE (And.intro ?_ ?_)); exact kr) | (with_reducible refine zE ?_) | ((with_reducible apply zP); (first | exact dp | exact oc rfl (aw) | exact oc rfl (fw) | exact oc rfl (cp) | exact oc rfl (pr) | exact oc rfl (f1) | exact oc rfl (f2) | exact oc rfl (g1) | exact oc rfl (g2) | exact oc rfl (q0) | exact oc rfl (q1))) | ((with_reducible apply zN); exact dn) | ((with_reducible apply zA); exact da) | ((with_reducible apply zS); exact ds) | ((with_reducible apply zY); exact rfl; exact rfl; exact tf) | ((with_reducible apply zG); exact rfl; exact rfl; exact tf) | ((with_reducible apply zU); exact rfl; exact rfl) | ((with_reducible apply zD); exact rfl; exact rfl) | ((with_reducible apply zB); exact rfl; exact rfl)))
      ((with_reducible first | apply q_retR | apply q_retN); exact rl)
      exact rt_bool (by simp)
    · rw [h] at q0
      refine ac_body Try.func3 rfl (by kernel_rfl) fun w0 ok => ?_; show AWp _ (ctx0 w0 ok _) _ (ARet _ _ _) (entry _)
      (repeat' (first | (with_reducible first | intro hg | refine mv (by constructor) ?_) | ((with_reducible first | refine zR ?_ ?_ | refine zW mixed ?_ ?_); exact kr) | ((with_reducible apply zK); exact rfl; exact tf) | ((with_reducible apply zCD); exact rfl) | ((with_reducible apply zCN); exact rfl) | ((with_reducible apply zC); exact rfl) | ((with_reducible refine zX ?_ ?_); exact rfl) | ((with_reducible refine zE (And.intro ?_ ?_)); exact kr) | (with_reducible refine zE ?_) | ((with_reducible apply zP); (first | exact dp | exact oc rfl (aw) | exact oc rfl (fw) | exact oc rfl (cp) | exact oc rfl (pr) | exact oc rfl (f1) | exact oc rfl (f2) | exact oc rfl (g1) | exact oc rfl (q0) | exact oc rfl (q1))) | ((with_reducible apply zN); exact dn) | ((with_reducible apply zA); exact da) | ((with_reducible apply zS); exact ds) | ((with_reducible apply zY); exact rfl; exact rfl; exact tf) | ((with_reducible apply zG); exact rfl; exact rfl; exact tf) | ((with_reducible apply zU); exact rfl; exact rfl) | ((with_reducible apply zD); exact rfl; exact rfl) | ((with_reducible apply zB); exact rfl; exact rfl)))
      ((with_reducible first | apply q_retR | apply q_retN); exact rl)
      rfl
    · rw [h0] at q0; rw [h1] at q1
      refine ac_body Try.func3 rfl (by kernel_rfl) fun w0 ok => ?_; show AWp _ (ctx0 w0 ok _) _ (ARet _ _ _) (entry _)
      (repeat' (first | (with_reducible first | intro hg | refine mv (by constructor) ?_) | ((with_reducible first | refine zR ?_ ?_ | refine zW mixed ?_ ?_); exact kr) | ((with_reducible apply zK); exact rfl; exact tf) | ((with_reducible apply zCD); exact rfl) | ((with_reducible apply zCN); exact rfl) | ((with_reducible apply zC); exact rfl) | ((with_reducible refine zX ?_ ?_); exact rfl) | ((with_reducible refine zE (And.intro ?_ ?_)); exact kr) | (with_reducible refine zE ?_) | ((with_reducible apply zP); (first | exact dp | exact oc rfl (aw) | exact oc rfl (fw) | exact oc rfl (cp) | exact oc rfl (pr) | exact oc rfl (f1) | exact oc rfl (f2) | exact oc rfl (g1) | exact oc rfl (q0) | exact oc rfl (q1))) | ((with_reducible apply zN); exact dn) | ((with_reducible apply zA); exact da) | ((with_reducible apply zS); exact ds) | ((with_reducible apply zY); exact rfl; exact rfl; exact tf) | ((with_reducible apply zG); exact rfl; exact rfl; exact tf) | ((with_reducible apply zU); exact rfl; exact rfl) | ((with_reducible apply zD); exact rfl; exact rfl) | ((with_reducible apply zB); exact rfl; exact rfl)))
      ((with_reducible first | apply q_retR | apply q_retN); exact rl)
      rfl
  · rcases hamp with ⟨n, g1, g2, h0, h1⟩ | ⟨g1, h | ⟨h0, h1⟩⟩
    · rw [h0] at q0; rw [h1] at q1
      have hn : n = n := rfl
      refine ac_body Try.func3 rfl (by kernel_rfl) fun w0 ok => ?_; show AWp _ (ctx0 w0 ok _) _ (ARet _ _ _) (entry _)
      (repeat' (first | (with_reducible first | intro hg | refine mv (by constructor) ?_) | ((with_reducible first | refine zR ?_ ?_ | refine zW mixed ?_ ?_); exact kr) | ((with_reducible apply zK); exact rfl; exact tf) | ((with_reducible apply zCD); exact rfl) | ((with_reducible apply zCN); exact rfl) | ((with_reducible apply zC); exact rfl) | ((with_reducible refine zX ?_ ?_); exact rfl) | ((with_reducible refine zE (And.intro ?_ ?_)); exact kr) | (with_reducible refine zE ?_) | ((with_reducible apply zP); (first | exact dp | exact oc rfl (aw) | exact oc rfl (fw) | exact oc rfl (cp) | exact oc rfl (pr) | exact oc rfl (f1) | exact oc rfl (f2) | exact oc rfl (g1) | exact oc rfl (g2) | exact oc rfl (q0) | exact oc rfl (q1))) | ((with_reducible apply zN); exact dn) | ((with_reducible apply zA); exact da) | ((with_reducible apply zS); exact ds) | ((with_reducible apply zY); exact rfl; exact rfl; exact tf) | ((with_reducible apply zG); exact rfl; exact rfl; exact tf) | ((with_reducible apply zU); exact rfl; exact rfl) | ((with_reducible apply zD); exact rfl; exact rfl) | ((with_reducible apply zB); exact rfl; exact rfl)))
      ((with_reducible first | apply q_retR | apply q_retN); exact rl)
      exact rt_bool (by simp)
    · rw [h] at q0
      refine ac_body Try.func3 rfl (by kernel_rfl) fun w0 ok => ?_; show AWp _ (ctx0 w0 ok _) _ (ARet _ _ _) (entry _)
      (repeat' (first | (with_reducible first | intro hg | refine mv (by constructor) ?_) | ((with_reducible first | refine zR ?_ ?_ | refine zW mixed ?_ ?_); exact kr) | ((with_reducible apply zK); exact rfl; exact tf) | ((with_reducible apply zCD); exact rfl) | ((with_reducible apply zCN); exact rfl) | ((with_reducible apply zC); exact rfl) | ((with_reducible refine zX ?_ ?_); exact rfl) | ((with_reducible refine zE (And.intro ?_ ?_)); exact kr) | (with_reducible refine zE ?_) | ((with_reducible apply zP); (first | exact dp | exact oc rfl (aw) | exact oc rfl (fw) | exact oc rfl (cp) | exact oc rfl (pr) | exact oc rfl (f1) | exact oc rfl (f2) | exact oc rfl (g1) | exact oc rfl (q0) | exact oc rfl (q1))) | ((with_reducible apply zN); exact dn) | ((with_reducible apply zA); exact da) | ((with_reducible apply zS); exact ds) | ((with_reducible apply zY); exact rfl; exact rfl; exact tf) | ((with_reducible apply zG); exact rfl; exact rfl; exact tf) | ((with_reducible apply zU); exact rfl; exact rfl) | ((with_reducible apply zD); exact rfl; exact rfl) | ((with_reducible apply zB); exact rfl; exact rfl)))
      ((with_reducible first | apply q_retR | apply q_retN); exact rl)
      rfl
    · rw [h0] at q0; rw [h1] at q1
      refine ac_body Try.func3 rfl (by kernel_rfl) fun w0 ok => ?_; show AWp _ (ctx0 w0 ok _) _ (ARet _ _ _) (entry _)
      (repeat' (first | (with_reducible first | intro hg | refine mv (by constructor) ?_) | ((with_reducible first | refine zR ?_ ?_ | refine zW mixed ?_ ?_); exact kr) | ((with_reducible apply zK); exact rfl; exact tf) | ((with_reducible apply zCD); exact rfl) | ((with_reducible apply zCN); exact rfl) | ((with_reducible apply zC); exact rfl) | ((with_reducible refine zX ?_ ?_); exact rfl) | ((with_reducible refine zE (And.intro ?_ ?_)); exact kr) | (with_reducible refine zE ?_) | ((with_reducible apply zP); (first | exact dp | exact oc rfl (aw) | exact oc rfl (fw) | exact oc rfl (cp) | exact oc rfl (pr) | exact oc rfl (f1) | exact oc rfl (f2) | exact oc rfl (g1) | exact oc rfl (q0) | exact oc rfl (q1))) | ((with_reducible apply zN); exact dn) | ((with_reducible apply zA); exact da) | ((with_reducible apply zS); exact ds) | ((with_reducible apply zY); exact rfl; exact rfl; exact tf) | ((with_reducible apply zG); exact rfl; exact rfl; exact tf) | ((with_reducible apply zU); exact rfl; exact rfl) | ((with_reducible apply zD); exact rfl; exact rfl) | ((with_reducible apply zB); exact rfl; exact rfl)))
      ((with_reducible first | apply q_retR | apply q_retN); exact rl)
      rfl
  · have hl : [D, x0, x1, x2, x3] = [D, x0, x1, x2, x3] := rfl
    rcases hamp with ⟨n, g1, g2, h0, h1⟩ | ⟨g1, h | ⟨h0, h1⟩⟩
    · rw [h0] at q0; rw [h1] at q1
      have hn : n = n := rfl
      refine ac_body Try.func3 rfl (by kernel_rfl) fun w0 ok => ?_; show AWp _ (ctx0 w0 ok _) _ (ARet _ _ _) (entry _)
      (repeat' (first | (with_reducible first | intro hg | refine mv (by constructor) ?_) | ((with_reducible first | refine zR ?_ ?_ | refine zW mixed ?_ ?_); exact kr) | ((with_reducible apply zK); exact rfl; exact tf) | ((with_reducible apply zCD); exact rfl) | ((with_reducible apply zCN); exact rfl) | ((with_reducible apply zC); exact rfl) | ((with_reducible refine zX ?_ ?_); exact rfl) | ((with_reducible refine zE (And.intro ?_ ?_)); exact kr) | (with_reducible refine zE ?_) | ((with_reducible apply zP); (first | exact dp | exact oc rfl (aw) | exact oc rfl (fw) | exact oc rfl (cp) | exact oc rfl (pr) | exact oc rfl (f1) | exact oc rfl (f2) | exact oc rfl (f3) | exact oc rfl (g1) | exact oc rfl (g2) | exact oc rfl (q0) | exact oc rfl (q1))) | ((with_reducible apply zN); exact dn) | ((with_reducible apply zA); exact da) | ((with_reducible apply zS); exact ds) | ((with_reducible apply zY); exact rfl; exact rfl; exact tf) | ((with_reducible apply zG); exact rfl; exact rfl; exact tf) | ((with_reducible apply zU); exact rfl; exact rfl) | ((with_reducible apply zD); exact rfl; exact rfl) | ((with_reducible apply zB); exact rfl; exact rfl)))
      all_goals first | exact absurd rfl hg | skip
      ((with_reducible first | apply q_retR | apply q_retN); exact rl)
      exact rt_bool (by simp)
    · rw [h] at q0
      refine ac_body Try.func3 rfl (by kernel_rfl) fun w0 ok => ?_; show AWp _ (ctx0 w0 ok _) _ (ARet _ _ _) (entry _)
      (repeat' (first | (with_reducible first | intro hg | refine mv (by constructor) ?_) | ((with_reducible first | refine zR ?_ ?_ | refine zW mixed ?_ ?_); exact kr) | ((with_reducible apply zK); exact rfl; exact tf) | ((with_reducible apply zCD); exact rfl) | ((with_reducible apply zCN); exact rfl) | ((with_reducible apply zC); exact rfl) | ((with_reducible refine zX ?_ ?_); exact rfl) | ((with_reducible refine zE (And.intro ?_ ?_)); exact kr) | (with_reducible refine zE ?_) | ((with_reducible apply zP); (first | exact dp | exact oc rfl (aw) | exact oc rfl (fw) | exact oc rfl (cp) | exact oc rfl (pr) | exact oc rfl (f1) | exact oc rfl (f2) | exact oc rfl (f3) | exact oc rfl (g1) | exact oc rfl (q0) | exact oc rfl (q1))) | ((with_reducible apply zN); exact dn) | ((with_reducible apply zA); exact da) | ((with_reducible apply zS); exact ds) | ((with_reducible apply zY); exact rfl; exact rfl; exact tf) | ((with_reducible apply zG); exact rfl; exact rfl; exact tf) | ((with_reducible apply zU); exact rfl; exact rfl) | ((with_reducible apply zD); exact rfl; exact rfl) | ((with_reducible apply zB); exact rfl; exact rfl)))
      all_goals first | exact absurd rfl hg | skip
      ((with_reducible first | apply q_retR | apply q_retN); exact rl)
      rfl
    · rw [h0] at q0; rw [h1] at q1
      refine ac_body Try.func3 rfl (by kernel_rfl) fun w0 ok => ?_; show AWp _ (ctx0 w0 ok _) _ (ARet _ _ _) (entry _)
      (repeat' (first | (with_reducible first | intro hg | refine mv (by constructor) ?_) | ((with_reducible first | refine zR ?_ ?_ | refine zW mixed ?_ ?_); exact kr) | ((with_reducible apply zK); exact rfl; exact tf) | ((with_reducible apply zCD); exact rfl) | ((with_reducible apply zCN); exact rfl) | ((with_reducible apply zC); exact rfl) | ((with_reducible refine zX ?_ ?_); exact rfl) | ((with_reducible refine zE (And.intro ?_ ?_)); exact kr) | (with_reducible refine zE ?_) | ((with_reducible apply zP); (first | exact dp | exact oc rfl (aw) | exact oc rfl (fw) | exact oc rfl (cp) | exact oc rfl (pr) | exact oc rfl (f1) | exact oc rfl (f2) | exact oc rfl (f3) | exact oc rfl (g1) | exact oc rfl (q0) | exact oc rfl (q1))) | ((with_reducible apply zN); exact dn) | ((with_reducible apply zA); exact da) | ((with_reducible apply zS); exact ds) | ((with_reducible apply zY); exact rfl; exact rfl; exact tf) | ((with_reducible apply zG); exact rfl; exact rfl; exact tf) | ((with_reducible apply zU); exact rfl; exact rfl) | ((with_reducible apply zD); exact rfl; exact rfl) | ((with_reducible apply zB); exact rfl; exact rfl)))
      all_goals first | exact absurd rfl hg | skip
      ((with_reducible first | apply q_retR | apply q_retN); exact rl)
      rfl

end Go.Proofs.Ytgjhikjnlcbmkaa
