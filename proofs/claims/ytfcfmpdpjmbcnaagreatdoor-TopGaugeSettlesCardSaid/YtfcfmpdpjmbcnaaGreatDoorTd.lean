/- The examples. -/
import Derived.Test.YtfcfmpdpjmbcnaaGreatDoorTc
import Derived.Test.YtfcfmpdpjmbcnaaGreatDoorUj
import Derived.Test.YtfcfmpdpjmbcnaaGreatDoorUp
import Derived.Test.YtfcfmpdpjmbcnaaGreatDoorUr
set_option linter.unusedVariables false
set_option linter.unusedSimpArgs false
namespace Go.Proofs.YtfcfmpdpjmbcnaaGreatDoor
open Go.RowKit
set_option maxRecDepth 20000
set_option maxHeartbeats 8000000

abbrev exC : List Rg := [(5, 5), (-2, -2)]
abbrev exL : DV := .agg [rgV exC, I 10]
abbrev exP : DV := .agg (prfC 2 [1, 1])
theorem exLoE : loE exC 10 = 0 := by decide +kernel
theorem exPrf : PrfOk exC.length 2 [1, 1] := ⟨by decide, by decide, rfl, by decide⟩
theorem exNorm : normF (powM exC 10 exC.length 2) [1, 1] (10 ^ 2) exC.length exC.length = (7, 10) := by decide +kernel
theorem loop_A : AC Tryz.prog 33 [] exL := by
  refine ac_body Tryz.func33 rfl (by kernel_rfl) fun w0 ok => ?_; show AWp _ (ctx0 w0 ok _) _ (ARet _ _ _) (entry _)
  (repeat' (first | (with_reducible first | intro hg | refine mv (by constructor) ?_) | ((with_reducible first | refine zR ?_ ?_ | refine zW mixed ?_ ?_); exact kr) | ((with_reducible apply zK); exact rfl; exact tf) | ((with_reducible apply zCD); exact rfl) | ((with_reducible apply zCN); exact rfl) | ((with_reducible apply zC); exact rfl) | ((with_reducible refine zX ?_ ?_); exact rfl) | ((with_reducible refine zE (And.intro ?_ ?_)); exact kr) | (with_reducible refine zE ?_) | ((with_reducible apply zP); (first | exact o_buildSlD rfl (by decide) rfl | exact dp)) | ((with_reducible apply zN); exact dn) | ((with_reducible apply zA); exact da) | ((with_reducible apply zS); exact ds) | ((with_reducible apply zY); exact rfl; exact rfl; exact tf) | ((with_reducible apply zG); exact rfl; exact rfl; exact tf) | ((with_reducible apply zU); exact rfl; exact rfl) | ((with_reducible apply zD); exact rfl; exact rfl) | ((with_reducible apply zB); exact rfl; exact rfl)))
  ((with_reducible first | apply q_retR | apply q_retN); exact rl)
  rfl
theorem monitor_A : AC Tryz.prog 36 [] (monV ⟨1, 1, 2, 1⟩) := by
  refine ac_body Tryz.func36 rfl (by kernel_rfl) fun w0 ok => ?_; show AWp _ (ctx0 w0 ok _) _ (ARet _ _ _) (entry _)
  (repeat' (first | (with_reducible first | intro hg | refine mv (by constructor) ?_) | ((with_reducible first | refine zR ?_ ?_ | refine zW mixed ?_ ?_); exact kr) | ((with_reducible apply zK); exact rfl; exact tf) | ((with_reducible apply zCD); exact rfl) | ((with_reducible apply zCN); exact rfl) | ((with_reducible apply zC); exact rfl) | ((with_reducible refine zX ?_ ?_); exact rfl) | ((with_reducible refine zE (And.intro ?_ ?_)); exact kr) | (with_reducible refine zE ?_) | ((with_reducible apply zP); exact dp) | ((with_reducible apply zN); exact dn) | ((with_reducible apply zA); exact da) | ((with_reducible apply zS); exact ds) | ((with_reducible apply zY); exact rfl; exact rfl; exact tf) | ((with_reducible apply zG); exact rfl; exact rfl; exact tf) | ((with_reducible apply zU); exact rfl; exact rfl) | ((with_reducible apply zD); exact rfl; exact rfl) | ((with_reducible apply zB); exact rfl; exact rfl)))
  ((with_reducible first | apply q_retR | apply q_retN); exact rl)
  rfl
theorem exNormOf : AC Tryz.prog 32 [exL, exP] (.tuple [F2 (7, 10), I 0]) := by
  have h := normOf_ok exC 10 exLoE 2 [1, 1] exPrf (7, 10) exNorm (by decide) (by decide)
  have e : frcR (7, 10).1 (7, 10).2 = ((7, 10), 0) := by decide +kernel
  rw [e] at h
  exact h
theorem exRests : AC Tryz.prog 35 [monV ⟨1, 1, 2, 1⟩, I 8] (.tuple [I 7, I 0]) := by
  have h := rests_ok ⟨1, 1, 2, 1⟩ ⟨by decide, by decide, by decide, by decide⟩ 8 (by decide)
  rw [ex_rest] at h
  exact h
theorem gaugeShown_A : AC Tryz.prog 14 [] (B true) := by
  have h1 : AC Tryz.prog 32 [exL, .agg [I 2, .slice 2 [I 1, I 1]]] (.tuple [F2 (7, 10), I 0]) := exNormOf
  refine ac_body Tryz.func14 rfl (by kernel_rfl) fun w0 ok => ?_; show AWp _ (ctx0 w0 ok _) _ (ARet _ _ _) (entry _)
  (repeat' (first | (with_reducible first | intro hg | refine mv (by constructor) ?_) | ((with_reducible first | refine zR ?_ ?_ | refine zW mixed ?_ ?_); exact kr) | ((with_reducible apply zK); exact rfl; exact tf) | ((with_reducible apply zCD); exact rfl) | ((with_reducible apply zCN); exact rfl) | ((with_reducible apply zC); exact rfl) | ((with_reducible refine zX ?_ ?_); exact rfl) | ((with_reducible refine zE (And.intro ?_ ?_)); exact kr) | (with_reducible refine zE ?_) | ((with_reducible apply zP); (first | exact o_buildSlD rfl (by decide) rfl | exact dp | exact oc rfl (loop_A) | exact oc rfl (monitor_A) | exact oc rfl (h1) | exact oc rfl (exRests))) | ((with_reducible apply zN); exact dn) | ((with_reducible apply zA); exact da) | ((with_reducible apply zS); exact ds) | ((with_reducible apply zY); exact rfl; exact rfl; exact tf) | ((with_reducible apply zG); exact rfl; exact rfl; exact tf) | ((with_reducible apply zU); exact rfl; exact rfl) | ((with_reducible apply zD); exact rfl; exact rfl) | ((with_reducible apply zB); exact rfl; exact rfl)))
  ((with_reducible first | apply q_retR | apply q_retN); exact rl)
  rfl
theorem branges_A (bx : List Rg) (hm : bx.length ≤ 140737488355328) : AC Tryz.prog 39 [rgV bx, rgV bx] (B true) := by
  refine ac_body Tryz.func39 rfl (by kernel_rfl) fun w0 ok => ?_; show AWp _ (ctx0 w0 ok _) _ (ARet _ _ _) (entry _)
  (repeat' (first | (with_reducible first | intro hg | refine mv (by constructor) ?_) | ((with_reducible first | refine zR ?_ ?_ | refine zW mixed ?_ ?_); exact kr) | ((with_reducible apply zK); exact rfl; exact tf) | ((with_reducible apply zCD); exact rfl) | ((with_reducible apply zCN); exact rfl) | ((with_reducible apply zC); exact rfl) | ((with_reducible refine zX ?_ ?_); exact rfl) | ((with_reducible refine zE (And.intro ?_ ?_)); exact kr) | (with_reducible refine zE ?_) | ((with_reducible apply zP); exact dp) | ((with_reducible apply zN); exact dn) | ((with_reducible apply zA); exact da) | ((with_reducible apply zS); exact ds) | ((with_reducible apply zY); exact rfl; exact rfl; exact tf) | ((with_reducible apply zG); exact rfl; exact rfl; exact tf) | ((with_reducible apply zU); exact rfl; exact rfl) | ((with_reducible apply zD); exact rfl; exact rfl) | ((with_reducible apply zB); exact rfl; exact rfl)))
  refine awp_loopL (α := Nat) (fun k => [(0, .d (rgV bx)), (1, .d (rgV bx)), (5, .d (I k))]) (fun _ => []) (fun k => k ≤ bx.length) (fun k => bx.length - k) 0 (Nat.zero_le _) (And.intro rfl (And.intro rfl (And.intro rfl trivial))) trivial fun k hk => ?_
  by_cases hlt : k < bx.length
  · (repeat' (first | (with_reducible first | intro hg | refine mv (by constructor) ?_) | ((with_reducible first | refine zR ?_ ?_ | refine zW mixed ?_ ?_); exact kr) | ((with_reducible apply zK); exact rfl; exact tf) | ((with_reducible apply zCD); exact rfl) | ((with_reducible apply zCN); exact rfl) | ((with_reducible apply zC); exact rfl) | ((with_reducible refine zX ?_ ?_); exact rfl) | ((with_reducible refine zE (And.intro ?_ ?_)); exact kr) | (with_reducible refine zE ?_) | ((with_reducible apply zP); (first | exact o_indexF rg0 frC_len (by decide) rfl rfl (by omega) rfl | exact o_neqS rfl rfl rfl rfl | exact dp)) | ((with_reducible apply zN); exact dn) | ((with_reducible apply zA); exact da) | ((with_reducible apply zS); exact ds) | ((with_reducible apply zY); exact rfl; exact rfl; exact tf) | ((with_reducible apply zG); exact rfl; exact rfl; exact tf) | ((with_reducible apply zU); exact rfl; exact rfl) | ((with_reducible apply zD); exact rfl; exact rfl) | ((with_reducible apply zB); exact rfl; exact rfl)))
    exact ⟨k + 1, hlt, by omega, (And.intro rfl (And.intro rfl (And.intro rfl trivial))), trivial⟩
  · (repeat' (first | (with_reducible first | intro hg | refine mv (by constructor) ?_) | ((with_reducible first | refine zR ?_ ?_ | refine zW mixed ?_ ?_); exact kr) | ((with_reducible apply zK); exact rfl; exact tf) | ((with_reducible apply zCD); exact rfl) | ((with_reducible apply zCN); exact rfl) | ((with_reducible apply zC); exact rfl) | ((with_reducible refine zX ?_ ?_); exact rfl) | ((with_reducible refine zE (And.intro ?_ ?_)); exact kr) | (with_reducible refine zE ?_) | ((with_reducible apply zP); exact dp) | ((with_reducible apply zN); exact dn) | ((with_reducible apply zA); exact da) | ((with_reducible apply zS); exact ds) | ((with_reducible apply zY); exact rfl; exact rfl; exact tf) | ((with_reducible apply zG); exact rfl; exact rfl; exact tf) | ((with_reducible apply zU); exact rfl; exact rfl) | ((with_reducible apply zD); exact rfl; exact rfl) | ((with_reducible apply zB); exact rfl; exact rfl)))
    ((with_reducible first | apply q_retR | apply q_retN); exact rl)
    rfl
end Go.Proofs.YtfcfmpdpjmbcnaaGreatDoor
