/- The examples. -/
import Derived.Test.YtfcfmpdpjmbcnaaGreatTc
import Derived.Test.YtfcfmpdpjmbcnaaGreatUj
import Derived.Test.YtfcfmpdpjmbcnaaGreatUp
import Derived.Test.YtfcfmpdpjmbcnaaGreatUr
set_option linter.unusedVariables false
set_option linter.unusedSimpArgs false
namespace Go.Proofs.YtfcfmpdpjmbcnaaGreat
open Go.RowKit
set_option maxRecDepth 20000
set_option maxHeartbeats 8000000

abbrev exC : List Rg := [(5, 5), (-2, -2)]
abbrev exL : DV := .agg [rgV exC, I 10]
abbrev exP : DV := .agg (prfC 2 [1, 1])
theorem exLoE : loE exC 10 = 0 := by decide +kernel
theorem exPrf : PrfOk exC.length 2 [1, 1] := ⟨by decide, by decide, rfl, by decide⟩
theorem exNorm : normF (powM exC 10 exC.length 2) [1, 1] (10 ^ 2) exC.length exC.length = (7, 10) := by decide +kernel
theorem loop_A : AC Tryz.prog 26 [] exL := by
  refine ac_body Tryz.func26 rfl (by kernel_rfl) fun w0 ok => ?_; show AWp _ (ctx0 w0 ok _) _ (ARet _ _ _) (entry _)
  (repeat' (first | (with_reducible first | intro hg | refine mv (by constructor) ?_) | ((with_reducible first | refine zR ?_ ?_ | refine zW mixed ?_ ?_); exact kr) | ((with_reducible apply zK); exact rfl; exact tf) | ((with_reducible apply zCD); exact rfl) | ((with_reducible apply zCN); exact rfl) | ((with_reducible apply zC); exact rfl) | ((with_reducible refine zX ?_ ?_); exact rfl) | ((with_reducible refine zE (And.intro ?_ ?_)); exact kr) | (with_reducible refine zE ?_) | ((with_reducible apply zP); (first | exact o_buildSlD rfl (by decide) rfl | exact dp)) | ((with_reducible apply zN); exact dn) | ((with_reducible apply zA); exact da) | ((with_reducible apply zS); exact ds) | ((with_reducible apply zY); exact rfl; exact rfl; exact tf) | ((with_reducible apply zG); exact rfl; exact rfl; exact tf) | ((with_reducible apply zU); exact rfl; exact rfl) | ((with_reducible apply zD); exact rfl; exact rfl) | ((with_reducible apply zB); exact rfl; exact rfl)))
  ((with_reducible first | apply q_retR | apply q_retN); exact rl)
  rfl
theorem monitor_A : AC Tryz.prog 29 [] (monV ⟨1, 1, 2, 1⟩) := by
  refine ac_body Tryz.func29 rfl (by kernel_rfl) fun w0 ok => ?_; show AWp _ (ctx0 w0 ok _) _ (ARet _ _ _) (entry _)
  (repeat' (first | (with_reducible first | intro hg | refine mv (by constructor) ?_) | ((with_reducible first | refine zR ?_ ?_ | refine zW mixed ?_ ?_); exact kr) | ((with_reducible apply zK); exact rfl; exact tf) | ((with_reducible apply zCD); exact rfl) | ((with_reducible apply zCN); exact rfl) | ((with_reducible apply zC); exact rfl) | ((with_reducible refine zX ?_ ?_); exact rfl) | ((with_reducible refine zE (And.intro ?_ ?_)); exact kr) | (with_reducible refine zE ?_) | ((with_reducible apply zP); exact dp) | ((with_reducible apply zN); exact dn) | ((with_reducible apply zA); exact da) | ((with_reducible apply zS); exact ds) | ((with_reducible apply zY); exact rfl; exact rfl; exact tf) | ((with_reducible apply zG); exact rfl; exact rfl; exact tf) | ((with_reducible apply zU); exact rfl; exact rfl) | ((with_reducible apply zD); exact rfl; exact rfl) | ((with_reducible apply zB); exact rfl; exact rfl)))
  ((with_reducible first | apply q_retR | apply q_retN); exact rl)
  rfl
abbrev exCh : List Lp := [⟨0, 1, 2, -1, 1, -20, 20⟩, ⟨0, 1, 2, 0, 0, -20, 20⟩]
theorem chain_A : AC Tryz.prog 31 [] (chV exCh) := by
  refine ac_body Tryz.func31 rfl (by kernel_rfl) fun w0 ok => ?_; show AWp _ (ctx0 w0 ok _) _ (ARet _ _ _) (entry _)
  (repeat' (first | (with_reducible first | intro hg | refine mv (by constructor) ?_) | ((with_reducible first | refine zR ?_ ?_ | refine zW mixed ?_ ?_); exact kr) | ((with_reducible apply zK); exact rfl; exact tf) | ((with_reducible apply zCD); exact rfl) | ((with_reducible apply zCN); exact rfl) | ((with_reducible apply zC); exact rfl) | ((with_reducible refine zX ?_ ?_); exact rfl) | ((with_reducible refine zE (And.intro ?_ ?_)); exact kr) | (with_reducible refine zE ?_) | ((with_reducible apply zP); (first | exact o_buildSlD rfl (by decide) rfl | exact dp)) | ((with_reducible apply zN); exact dn) | ((with_reducible apply zA); exact da) | ((with_reducible apply zS); exact ds) | ((with_reducible apply zY); exact rfl; exact rfl; exact tf) | ((with_reducible apply zG); exact rfl; exact rfl; exact tf) | ((with_reducible apply zU); exact rfl; exact rfl) | ((with_reducible apply zD); exact rfl; exact rfl) | ((with_reducible apply zB); exact rfl; exact rfl)))
  ((with_reducible first | apply q_retR | apply q_retN); exact rl)
  rfl
theorem exNormOf : AC Tryz.prog 25 [exL, exP] (.tuple [F2 (7, 10), I 0]) := by
  have h := normOf_ok exC 10 exLoE 2 [1, 1] exPrf (7, 10) exNorm (by decide) (by decide)
  have e : frcR (7, 10).1 (7, 10).2 = ((7, 10), 0) := by decide +kernel
  rw [e] at h
  exact h
theorem exRests : AC Tryz.prog 28 [monV ⟨1, 1, 2, 1⟩, I 8] (.tuple [I 7, I 0]) := by
  have h := rests_ok ⟨1, 1, 2, 1⟩ ⟨by decide, by decide, by decide, by decide⟩ 8 (by decide)
  rw [ex_rest] at h
  exact h
theorem exBox : bxR exCh [0, 0] = (rgV [(-2, 2), (0, 0)], 0) := by
  have h : stL exCh [0, 0] exCh.length = true := by decide +kernel
  have h2 : boxF exCh (rmA exCh (stB [0, 0]) exCh.length + 1) (stB [0, 0]) = some [(-2, 2), (0, 0)] := by decide +kernel
  unfold bxR
  rw [h, h2]; rfl
theorem exBoxFor : AC Tryz.prog 30 [chV exCh, isl [0, 0]] (.tuple [rgV [(-2, 2), (0, 0)], I 0]) := by
  have h := boxFor_A exCh [0, 0] (by decide +kernel) rfl (by decide)
  rw [exBox] at h
  exact h

theorem exSmall1 : AC Tryz.prog 104 [I 2, I 10] (.tuple [I 20, B true]) := small_ok 2 10 (by decide) (by decide) (by decide)
theorem exSmall2 : AC Tryz.prog 104 [I 1, I 3] (.tuple [I 3, B true]) := small_ok 1 3 (by decide) (by decide) (by decide)
theorem exDiv1 : AC Tryz.prog 88 [I 2, I 3] (I 1) := by
  have h := divisor_A 2 3 ⟨by decide, by decide⟩ ⟨by decide, by decide⟩
  rwa [show Int.gcd 2 3 = 1 by decide] at h
theorem exDiv2 : AC Tryz.prog 88 [I 10, I 1] (I 1) := by
  have h := divisor_A 10 1 ⟨by decide, by decide⟩ ⟨by decide, by decide⟩
  rwa [show Int.gcd 10 1 = 1 by decide] at h
theorem exProduct : AC Tryz.prog 66 [.agg [I 2, I 1], .agg [I 10, I 3]] (.tuple [F2 (20, 3), I 0]) := by
  refine ac_body Tryz.func66 rfl (by kernel_rfl) fun w0 ok => ?_; show AWp _ (ctx0 w0 ok _) _ (ARet _ _ _) (entry _)
  (repeat' (first | (with_reducible first | intro hg | refine mv (by constructor) ?_) | ((with_reducible first | refine zR ?_ ?_ | refine zW mixed ?_ ?_); exact kr) | ((with_reducible apply zK); exact rfl; exact tf) | ((with_reducible apply zCD); exact rfl) | ((with_reducible apply zCN); exact rfl) | ((with_reducible apply zC); exact rfl) | ((with_reducible refine zX ?_ ?_); exact rfl) | ((with_reducible refine zE (And.intro ?_ ?_)); exact kr) | (with_reducible refine zE ?_) | ((with_reducible apply zP); (first | exact dp | exact oc rfl (exDiv1) | exact oc rfl (exDiv2) | exact oc rfl (exSmall1) | exact oc rfl (exSmall2))) | ((with_reducible apply zN); exact dn) | ((with_reducible apply zA); exact da) | ((with_reducible apply zS); exact ds) | ((with_reducible apply zY); exact rfl; exact rfl; exact tf) | ((with_reducible apply zG); exact rfl; exact rfl; exact tf) | ((with_reducible apply zU); exact rfl; exact rfl) | ((with_reducible apply zD); exact rfl; exact rfl) | ((with_reducible apply zB); exact rfl; exact rfl)))
  ((with_reducible first | apply q_retR | apply q_retN); exact rl)
  rfl
theorem exLow1 : AC Tryz.prog 67 [I 50400, I 25200] (F2 (2, 1)) := by
  have h := lowest_A 50400 25200 ⟨by decide, by decide⟩ (by decide) (by decide)
  rwa [show low 50400 25200 = (2, 1) by decide +kernel] at h
theorem exLow2 : AC Tryz.prog 67 [I 10, I 3] (F2 (10, 3)) := by
  have h := lowest_A 10 3 ⟨by decide, by decide⟩ (by decide) (by decide)
  rwa [show low 10 3 = (10, 3) by decide +kernel] at h
theorem exRaised : AC Tryz.prog 38 [I 10, I 1] (I 10) := by
  have h := raised_A 10 (by decide) 1 (by decide)
  rwa [show (10 : Int) ^ 1 = 10 by decide] at h
theorem exSettles : AC Tryz.prog 53 [F2 (7, 10)] (B true) := by
  have h := settles_A (7, 10)
  rwa [show decide (((7, 10) : Fr).1 < ((7, 10) : Fr).2) = true by decide] at h
theorem exSize1 : AC Tryz.prog 65 [I 10] (I 10) := size_A 10 ⟨by decide, by decide⟩
theorem exSize2 : AC Tryz.prog 65 [I 5] (I 5) := size_A 5 ⟨by decide, by decide⟩
theorem exGain : AC Tryz.prog 27 [exL, exP] (.tuple [F2 (20, 3), I 0]) := by
  have h1 : AC Tryz.prog 64 [exL] (I 0) := exactErr_ok exC 10 exLoE (by decide)
  have h2 : AC Tryz.prog 51 [exL, exP] (I 0) := proofErr_ok exC 10 exLoE 2 [1, 1] exPrf
  have h3 : AC Tryz.prog 52 [exL, exP] (F2 (7, 10)) := by
    have h := norm_A exC 10 (loE_ok exLoE) 2 [1, 1] exPrf
    rw [exNorm] at h
    exact h
  refine ac_body Tryz.func27 rfl (by kernel_rfl) fun w0 ok => ?_; show AWp _ (ctx0 w0 ok _) _ (ARet _ _ _) (entry _)
  (repeat' (first | (with_reducible first | intro hg | refine mv (by constructor) ?_ | refine awp_loopU ?_ | refine awpL_step ?_) | ((with_reducible first | refine zR ?_ ?_ | refine zW mixed ?_ ?_); exact kr) | ((with_reducible apply zK); exact rfl; exact tf) | ((with_reducible apply zCD); exact rfl) | ((with_reducible apply zCN); exact rfl) | ((with_reducible apply zC); exact rfl) | ((with_reducible refine zX ?_ ?_); exact rfl) | ((with_reducible refine zE (And.intro ?_ ?_)); exact kr) | (with_reducible refine zE ?_) | ((with_reducible apply zP); (first | exact o_indexF rg0 (xs := exC) (j := 0) frC_len (by decide) rfl rfl (Nat.le_of_ble_eq_true rfl) rfl | exact o_indexF rg0 (xs := exC) (j := 1) frC_len (by decide) rfl rfl (Nat.le_of_ble_eq_true rfl) rfl | exact o_indexI (xs := [1, 1]) (j := 0) rfl rfl (Nat.le_of_ble_eq_true rfl) rfl | exact o_indexI (xs := [1, 1]) (j := 1) rfl rfl (Nat.le_of_ble_eq_true rfl) rfl | exact o_mul rfl rfl (wr (by decide)) | exact o_add rfl rfl (wr (by decide)) | exact o_sub rfl rfl (wr (by decide)) | exact o_quo rfl rfl (by decide) (wr (by decide)) | exact dp | exact oc rfl (h1) | exact oc rfl (h2) | exact oc rfl (h3) | exact oc rfl (first2_A _ _) | exact oc rfl (exSettles) | exact oc rfl (exRaised) | exact oc rfl (exSize1) | exact oc rfl (exSize2) | exact oc rfl (exLow1) | exact oc rfl (exLow2) | exact oc rfl (exProduct))) | ((with_reducible apply zN); exact dn) | ((with_reducible apply zA); exact da) | ((with_reducible apply zS); exact ds) | ((with_reducible apply zY); exact rfl; exact rfl; exact tf) | ((with_reducible apply zG); exact rfl; exact rfl; exact tf) | ((with_reducible apply zU); exact rfl; exact rfl) | ((with_reducible apply zD); exact rfl; exact rfl) | ((with_reducible apply zB); exact rfl; exact rfl)))
  ((with_reducible first | apply q_retR | apply q_retN); exact rl)
  rfl
theorem branges_A (bx : List Rg) (hm : bx.length ≤ 140737488355328) : AC Tryz.prog 32 [rgV bx, rgV bx] (B true) := by
  refine ac_body Tryz.func32 rfl (by kernel_rfl) fun w0 ok => ?_; show AWp _ (ctx0 w0 ok _) _ (ARet _ _ _) (entry _)
  (repeat' (first | (with_reducible first | intro hg | refine mv (by constructor) ?_) | ((with_reducible first | refine zR ?_ ?_ | refine zW mixed ?_ ?_); exact kr) | ((with_reducible apply zK); exact rfl; exact tf) | ((with_reducible apply zCD); exact rfl) | ((with_reducible apply zCN); exact rfl) | ((with_reducible apply zC); exact rfl) | ((with_reducible refine zX ?_ ?_); exact rfl) | ((with_reducible refine zE (And.intro ?_ ?_)); exact kr) | (with_reducible refine zE ?_) | ((with_reducible apply zP); exact dp) | ((with_reducible apply zN); exact dn) | ((with_reducible apply zA); exact da) | ((with_reducible apply zS); exact ds) | ((with_reducible apply zY); exact rfl; exact rfl; exact tf) | ((with_reducible apply zG); exact rfl; exact rfl; exact tf) | ((with_reducible apply zU); exact rfl; exact rfl) | ((with_reducible apply zD); exact rfl; exact rfl) | ((with_reducible apply zB); exact rfl; exact rfl)))
  refine awp_loopL (α := Nat) (fun k => [(0, .d (rgV bx)), (1, .d (rgV bx)), (5, .d (I k))]) (fun _ => []) (fun k => k ≤ bx.length) (fun k => bx.length - k) 0 (Nat.zero_le _) (And.intro rfl (And.intro rfl (And.intro rfl trivial))) trivial fun k hk => ?_
  by_cases hlt : k < bx.length
  · (repeat' (first | (with_reducible first | intro hg | refine mv (by constructor) ?_) | ((with_reducible first | refine zR ?_ ?_ | refine zW mixed ?_ ?_); exact kr) | ((with_reducible apply zK); exact rfl; exact tf) | ((with_reducible apply zCD); exact rfl) | ((with_reducible apply zCN); exact rfl) | ((with_reducible apply zC); exact rfl) | ((with_reducible refine zX ?_ ?_); exact rfl) | ((with_reducible refine zE (And.intro ?_ ?_)); exact kr) | (with_reducible refine zE ?_) | ((with_reducible apply zP); (first | exact o_indexF rg0 frC_len (by decide) rfl rfl (by omega) rfl | exact o_neqS rfl rfl rfl rfl | exact dp)) | ((with_reducible apply zN); exact dn) | ((with_reducible apply zA); exact da) | ((with_reducible apply zS); exact ds) | ((with_reducible apply zY); exact rfl; exact rfl; exact tf) | ((with_reducible apply zG); exact rfl; exact rfl; exact tf) | ((with_reducible apply zU); exact rfl; exact rfl) | ((with_reducible apply zD); exact rfl; exact rfl) | ((with_reducible apply zB); exact rfl; exact rfl)))
    exact ⟨k + 1, hlt, by omega, (And.intro rfl (And.intro rfl (And.intro rfl trivial))), trivial⟩
  · (repeat' (first | (with_reducible first | intro hg | refine mv (by constructor) ?_) | ((with_reducible first | refine zR ?_ ?_ | refine zW mixed ?_ ?_); exact kr) | ((with_reducible apply zK); exact rfl; exact tf) | ((with_reducible apply zCD); exact rfl) | ((with_reducible apply zCN); exact rfl) | ((with_reducible apply zC); exact rfl) | ((with_reducible refine zX ?_ ?_); exact rfl) | ((with_reducible refine zE (And.intro ?_ ?_)); exact kr) | (with_reducible refine zE ?_) | ((with_reducible apply zP); exact dp) | ((with_reducible apply zN); exact dn) | ((with_reducible apply zA); exact da) | ((with_reducible apply zS); exact ds) | ((with_reducible apply zY); exact rfl; exact rfl; exact tf) | ((with_reducible apply zG); exact rfl; exact rfl; exact tf) | ((with_reducible apply zU); exact rfl; exact rfl) | ((with_reducible apply zD); exact rfl; exact rfl) | ((with_reducible apply zB); exact rfl; exact rfl)))
    ((with_reducible first | apply q_retR | apply q_retN); exact rl)
    rfl
theorem exRanges : AC Tryz.prog 32 [rgV [(-2, 2), (0, 0)], .slice 2 [I (-2), I 2, I 0, I 0]] (B true) := branges_A [(-2, 2), (0, 0)] (by decide)
theorem awake_A : AC Tryz.prog 5 [] (B true) := by
  have h1 : AC Tryz.prog 25 [exL, .agg [I 2, .slice 2 [I 1, I 1]]] (.tuple [F2 (7, 10), I 0]) := exNormOf
  have h2 : AC Tryz.prog 27 [exL, .agg [I 2, .slice 2 [I 1, I 1]]] (.tuple [F2 (20, 3), I 0]) := exGain
  have h3 : AC Tryz.prog 30 [chV exCh, .slice 2 [I 0, I 0]] (.tuple [rgV [(-2, 2), (0, 0)], I 0]) := exBoxFor
  refine ac_body Tryz.func5 rfl (by kernel_rfl) fun w0 ok => ?_; show AWp _ (ctx0 w0 ok _) _ (ARet _ _ _) (entry _)
  (repeat' (first | (with_reducible first | intro hg | refine mv (by constructor) ?_) | ((with_reducible first | refine zR ?_ ?_ | refine zW mixed ?_ ?_); exact kr) | ((with_reducible apply zK); exact rfl; exact tf) | ((with_reducible apply zCD); exact rfl) | ((with_reducible apply zCN); exact rfl) | ((with_reducible apply zC); exact rfl) | ((with_reducible refine zX ?_ ?_); exact rfl) | ((with_reducible refine zE (And.intro ?_ ?_)); exact kr) | (with_reducible refine zE ?_) | ((with_reducible apply zP); (first | exact o_buildSlD rfl (by decide) rfl | exact dp | exact oc rfl (loop_A) | exact oc rfl (monitor_A) | exact oc rfl (chain_A) | exact oc rfl (h1) | exact oc rfl (h2) | exact oc rfl (h3) | exact oc rfl (exRests) | exact oc rfl (exRanges))) | ((with_reducible apply zN); exact dn) | ((with_reducible apply zA); exact da) | ((with_reducible apply zS); exact ds) | ((with_reducible apply zY); exact rfl; exact rfl; exact tf) | ((with_reducible apply zG); exact rfl; exact rfl; exact tf) | ((with_reducible apply zU); exact rfl; exact rfl) | ((with_reducible apply zD); exact rfl; exact rfl) | ((with_reducible apply zB); exact rfl; exact rfl)))
  ((with_reducible first | apply q_retR | apply q_retN); exact rl)
  rfl

end Go.Proofs.YtfcfmpdpjmbcnaaGreat
