/- Strings of rolls: the law. -/
import Derived.Test.YtocnbbjcfgfgdaaGreatDoorRt
import Derived.Test.YtocnbbjcfgfgdaaGreatDoorW6
set_option linter.unusedVariables false
set_option linter.unusedSimpArgs false
namespace Go.Proofs.YtocnbbjcfgfgdaaGreatDoor
open Go.RowKit
set_option maxRecDepth 20000
set_option maxHeartbeats 8000000

theorem rollStrings_T (n l : List UInt8) (p o : Int) (hp : I64 p) (ho : I64 o) (hn : n.length ≤ 140737488355328) (hl : l.length ≤ 140737488355328) : AC Tryz.prog 3 [dT n p o, T8 l] (B true) := by
  have aw := awake_A
  by_cases h1 : (n.length : Int) ≤ 60
  rotate_left
  · refine ac_body Tryz.func3 rfl (by kernel_rfl) fun w0 ok => ?_; show AWp _ (ctx0 w0 ok _) _ (ARet _ _ _) (entry _)
    (repeat' (first | (with_reducible first | intro hg | refine mv (by constructor) ?_) | ((with_reducible first | refine zR ?_ ?_ | refine zW mixed ?_ ?_); exact kr) | ((with_reducible apply zK); exact rfl; exact tf) | ((with_reducible apply zCD); exact rfl) | ((with_reducible apply zCN); exact rfl) | ((with_reducible apply zC); exact rfl) | ((with_reducible refine zX ?_ ?_); exact rfl) | ((with_reducible refine zE (And.intro ?_ ?_)); exact kr) | (with_reducible refine zE ?_) | ((with_reducible apply zP); (first | exact o_lenT8 rfl | exact dp | exact oc rfl (aw))) | ((with_reducible apply zN); exact dn) | ((with_reducible apply zA); exact da) | ((with_reducible apply zS); exact ds) | ((with_reducible apply zY); exact rfl; exact rfl; exact tf) | ((with_reducible apply zG); exact rfl; exact rfl; exact tf) | ((with_reducible apply zU); exact rfl; exact rfl) | ((with_reducible apply zD); exact rfl; exact rfl) | ((with_reducible apply zB); exact rfl; exact rfl)))
    ((with_reducible first | apply q_retR | apply q_retN); exact rl)
    rfl
  by_cases h2 : (l.length : Int) ≤ 60
  rotate_left
  · refine ac_body Tryz.func3 rfl (by kernel_rfl) fun w0 ok => ?_; show AWp _ (ctx0 w0 ok _) _ (ARet _ _ _) (entry _)
    (repeat' (first | (with_reducible first | intro hg | refine mv (by constructor) ?_) | ((with_reducible first | refine zR ?_ ?_ | refine zW mixed ?_ ?_); exact kr) | ((with_reducible apply zK); exact rfl; exact tf) | ((with_reducible apply zCD); exact rfl) | ((with_reducible apply zCN); exact rfl) | ((with_reducible apply zC); exact rfl) | ((with_reducible refine zX ?_ ?_); exact rfl) | ((with_reducible refine zE (And.intro ?_ ?_)); exact kr) | (with_reducible refine zE ?_) | ((with_reducible apply zP); (first | exact o_lenT8 rfl | exact dp | exact oc rfl (aw))) | ((with_reducible apply zN); exact dn) | ((with_reducible apply zA); exact da) | ((with_reducible apply zS); exact ds) | ((with_reducible apply zY); exact rfl; exact rfl; exact tf) | ((with_reducible apply zG); exact rfl; exact rfl; exact tf) | ((with_reducible apply zU); exact rfl; exact rfl) | ((with_reducible apply zD); exact rfl; exact rfl) | ((with_reducible apply zB); exact rfl; exact rfl)))
    ((with_reducible first | apply q_retR | apply q_retN); exact rl)
    rfl
  have f1 := formatDrum_A n p o (by omega) hp ho
  have f2 := refFormatDrum_A n p o (by omega) hp ho
  have p1 := parseDrum_A l (by omega)
  have p2 := refParse_A l (by omega)
  have ck := bDrum_A ⟨n.toArray⟩ p o (by rw [T8_size]; omega)
  have fl := fmtD_len (n := n) hp ho
  have p3 := parseDrum_A (fmtD n p o) (by omega)
  have rt := @prs_fmt n p o
  generalize prsD l = r at *
  obtain ⟨⟨a, b, c⟩, e⟩ := r
  have p1 : AC Tryz.prog 7 [T8 l] (.tuple [dT a b c, I e]) := p1
  have p2 : AC Tryz.prog 8 [T8 l] (.tuple [dT a b c, I e]) := p2
  generalize drumErr ⟨n.toArray⟩ p o = u at *
  by_cases hu : u = 0
  · rw [rt hu] at p3
    have p3 : AC Tryz.prog 7 [T8 (fmtD n p o)] (.tuple [dT n p o, I 0]) := p3
    subst hu
    generalize fmtD n p o = t at *
    refine ac_body Tryz.func3 rfl (by kernel_rfl) fun w0 ok => ?_; show AWp _ (ctx0 w0 ok _) _ (ARet _ _ _) (entry _)
    (repeat' (first | (with_reducible first | intro hg | refine mv (by constructor) ?_) | ((with_reducible first | refine zR ?_ ?_ | refine zW mixed ?_ ?_); exact kr) | ((with_reducible apply zK); exact rfl; exact tf) | ((with_reducible apply zCD); exact rfl) | ((with_reducible apply zCN); exact rfl) | ((with_reducible apply zC); exact rfl) | ((with_reducible refine zX ?_ ?_); exact rfl) | ((with_reducible refine zE (And.intro ?_ ?_)); exact kr) | (with_reducible refine zE ?_) | ((with_reducible apply zP); (first | exact o_lenT8 rfl | exact o_neqT rfl rfl | exact o_neqDr rfl rfl | exact o_eqlDr rfl rfl | exact dp | exact oc rfl (aw) | exact oc rfl (f1) | exact oc rfl (f2) | exact oc rfl (p1) | exact oc rfl (p2) | exact oc rfl (ck) | exact oc rfl (p3))) | ((with_reducible apply zN); exact dn) | ((with_reducible apply zA); exact da) | ((with_reducible apply zS); exact ds) | ((with_reducible apply zY); exact rfl; exact rfl; exact tf) | ((with_reducible apply zG); exact rfl; exact rfl; exact tf) | ((with_reducible apply zU); exact rfl; exact rfl) | ((with_reducible apply zD); exact rfl; exact rfl) | ((with_reducible apply zB); exact rfl; exact rfl)))
    all_goals first | (exfalso; simp at hg; done) | skip
    ((with_reducible first | apply q_retR | apply q_retN); exact rl)
    first | rfl | (show B true = B _; simp only [decide_true, Bool.and_self, Bool.true_and]; done)
  · generalize fmtD n p o = t at *
    refine ac_body Tryz.func3 rfl (by kernel_rfl) fun w0 ok => ?_; show AWp _ (ctx0 w0 ok _) _ (ARet _ _ _) (entry _)
    (repeat' (first | (with_reducible first | intro hg | refine mv (by constructor) ?_) | ((with_reducible first | refine zR ?_ ?_ | refine zW mixed ?_ ?_); exact kr) | ((with_reducible apply zK); exact rfl; exact tf) | ((with_reducible apply zCD); exact rfl) | ((with_reducible apply zCN); exact rfl) | ((with_reducible apply zC); exact rfl) | ((with_reducible refine zX ?_ ?_); exact rfl) | ((with_reducible refine zE (And.intro ?_ ?_)); exact kr) | (with_reducible refine zE ?_) | ((with_reducible apply zP); (first | exact o_lenT8 rfl | exact o_neqT rfl rfl | exact o_neqDr rfl rfl | exact o_eqlDr rfl rfl | exact dp | exact oc rfl (aw) | exact oc rfl (f1) | exact oc rfl (f2) | exact oc rfl (p1) | exact oc rfl (p2) | exact oc rfl (ck))) | ((with_reducible apply zN); exact dn) | ((with_reducible apply zA); exact da) | ((with_reducible apply zS); exact ds) | ((with_reducible apply zY); exact rfl; exact rfl; exact tf) | ((with_reducible apply zG); exact rfl; exact rfl; exact tf) | ((with_reducible apply zU); exact rfl; exact rfl) | ((with_reducible apply zD); exact rfl; exact rfl) | ((with_reducible apply zB); exact rfl; exact rfl)))
    all_goals first | (exfalso; simp at hg; done) | skip
    ((with_reducible first | apply q_retR | apply q_retN); exact rl)
    first | rfl | (show B true = B _; simp only [decide_true, Bool.and_self, Bool.true_and]; done)
theorem rollStrings_A (nm s : ByteArray) (p o : Int) (hn : nm.size ≤ 140737488355328) (hp : I64 p) (ho : I64 o) (hs : s.size ≤ 140737488355328) : AC Tryz.prog 3 [drumV nm p o, S s] (B true) := by
  obtain ⟨⟨n⟩⟩ := nm
  obtain ⟨⟨l⟩⟩ := s
  exact rollStrings_T n l p o hp ho (by rwa [T8_size] at hn) (by rwa [T8_size] at hs)

end Go.Proofs.YtocnbbjcfgfgdaaGreatDoor
