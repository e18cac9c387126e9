/- The first proof that settles a loop. -/
import Derived.Test.YtiabcffcbhlbiaaGreatSm
import Derived.Test.YtiabcffcbhlbiaaGreatNc
set_option linter.unusedVariables false
set_option linter.unusedSimpArgs false
namespace Go.Proofs.YtiabcffcbhlbiaaGreat
open Go.RowKit
set_option maxRecDepth 20000
set_option maxHeartbeats 8000000

abbrev onesL (n : Nat) : List Int := lst (fun _ => 1) n
theorem bitsMul_A (n : Nat) (h : n ≤ 1000000) : AC Tryz.prog 124 [U 1, U n] (.tuple [U 0, U n]) := by
  have w := mul64_A 1 n (by decide) (by omega)
  rw [Nat.one_mul, show n / 18446744073709551616 = 0 by omega, show n % 18446744073709551616 = n by omega] at w
  refine ac_body Tryz.func124 rfl (by kernel_rfl) fun w0 ok => ?_; show AWp _ (ctx0 w0 ok _) _ (ARet _ _ _) (entry _)
  (repeat' (first | (with_reducible first | intro hg | refine mv (by constructor) ?_) | ((with_reducible first | refine zR ?_ ?_ | refine zW mixed ?_ ?_); exact kr) | ((with_reducible apply zK); exact rfl; exact tf) | ((with_reducible apply zCD); exact rfl) | ((with_reducible apply zCN); exact rfl) | ((with_reducible apply zC); exact rfl) | ((with_reducible refine zX ?_ ?_); exact rfl) | ((with_reducible refine zE (And.intro ?_ ?_)); exact kr) | (with_reducible refine zE ?_) | ((with_reducible apply zP); (first | exact o_conv (k' := .u64) rfl (wu (by decide)) | exact o_conv (k' := .u64) rfl (wu (by omega)) | exact dp | exact oc rfl (w))) | ((with_reducible apply zN); exact dn) | ((with_reducible apply zA); exact da) | ((with_reducible apply zS); exact ds) | ((with_reducible apply zY); exact rfl; exact rfl; exact tf) | ((with_reducible apply zG); exact rfl; exact rfl; exact tf) | ((with_reducible apply zU); exact rfl; exact rfl) | ((with_reducible apply zD); exact rfl; exact rfl) | ((with_reducible apply zB); exact rfl; exact rfl)))
  ((with_reducible first | apply q_retR | apply q_retN); exact rl)
  rfl
theorem repeat1_A : AC Tryz.prog 81 [isl [1], I 1] (isl (onesL 1)) := by
  have w : AC Tryz.prog 124 [.val (.int .u64 1), .val (.int .u64 1)] (.tuple [.val (.int .u64 0), .val (.int .u64 1)]) := bitsMul_A 1 (by decide)
  refine ac_body Tryz.func81 rfl (by kernel_rfl) fun w0 ok => ?_; show AWp _ (ctx0 w0 ok _) _ (ARet _ _ _) (entry _)
  (repeat' (first | (with_reducible first | intro hg | refine mv (by constructor) ?_ | refine awp_loopU ?_ | refine awpL_step ?_) | ((with_reducible first | refine zR ?_ ?_ | refine zW mixed ?_ ?_); exact kr) | ((with_reducible apply zK); exact rfl; exact tf) | ((with_reducible apply zCD); exact rfl) | ((with_reducible apply zCN); exact rfl) | ((with_reducible apply zC); exact rfl) | ((with_reducible refine zX ?_ ?_); exact rfl) | ((with_reducible refine zE (And.intro ?_ ?_)); exact kr) | (with_reducible refine zE ?_) | ((with_reducible apply r_setV); exact o_copy (n := 1) (m := 1) (r := .d (I 1)) (cs := [I 1]) rfl rfl (by decide) (.sl rfl) rfl (by decide) (by decide) rfl rfl) | ((with_reducible apply zP); (first | exact o_conv (k' := .u64) (r := 1) rfl (by decide) | exact o_conv (k' := .i64) (r := 1) rfl (by decide) | exact dp | exact oc rfl (w))) | ((with_reducible apply zN); (first | exact dn | exact o_makeSl (n := 1) rfl (by decide) (by decide) rfl)) | ((with_reducible apply zA); exact da) | ((with_reducible apply zS); exact ds) | ((with_reducible apply zY); exact rfl; exact rfl; exact tf) | ((with_reducible apply zG); exact rfl; exact rfl; exact tf) | ((with_reducible apply zU); exact rfl; exact rfl) | ((with_reducible apply zD); exact rfl; exact rfl) | ((with_reducible apply zB); exact rfl; exact rfl)))
  ((with_reducible first | apply q_retR | apply q_retN); exact rl)
  rfl
theorem repeat2_A : AC Tryz.prog 81 [isl [1], I 2] (isl (onesL 2)) := by
  have w : AC Tryz.prog 124 [.val (.int .u64 1), .val (.int .u64 2)] (.tuple [.val (.int .u64 0), .val (.int .u64 2)]) := bitsMul_A 2 (by decide)
  refine ac_body Tryz.func81 rfl (by kernel_rfl) fun w0 ok => ?_; show AWp _ (ctx0 w0 ok _) _ (ARet _ _ _) (entry _)
  (repeat' (first | (with_reducible first | intro hg | refine mv (by constructor) ?_ | refine awp_loopU ?_ | refine awpL_step ?_) | ((with_reducible first | refine zR ?_ ?_ | refine zW mixed ?_ ?_); exact kr) | ((with_reducible apply zK); exact rfl; exact tf) | ((with_reducible apply zCD); exact rfl) | ((with_reducible apply zCN); exact rfl) | ((with_reducible apply zC); exact rfl) | ((with_reducible refine zX ?_ ?_); exact rfl) | ((with_reducible refine zE (And.intro ?_ ?_)); exact kr) | (with_reducible refine zE ?_) | ((with_reducible apply r_setV); (first | exact o_copy (n := 2) (m := 1) (r := .d (I 1)) (cs := [I 1]) rfl rfl (by decide) (.sl rfl) rfl (by decide) (by decide) rfl rfl | exact o_copy (n := 1) (m := 1) (r := .d (I 1)) rfl rfl (by decide) (.own rfl rfl) (by rfl) (by decide) (by decide) rfl rfl)) | ((with_reducible apply zP); (first | exact o_conv (k' := .u64) (r := 1) rfl (by decide) | exact o_conv (k' := .u64) (r := 2) rfl (by decide) | exact o_conv (k' := .i64) (r := 2) rfl (by decide) | exact o_sliceOL (l := 1) rfl rfl (by decide) | exact o_sliceOH (h := 1) rfl rfl (by decide) | exact dp | exact oc rfl (w))) | ((with_reducible apply zN); (first | exact dn | exact o_makeSl (n := 2) rfl (by decide) (by decide) rfl)) | ((with_reducible apply zA); exact da) | ((with_reducible apply zS); exact ds) | ((with_reducible apply zY); exact rfl; exact rfl; exact tf) | ((with_reducible apply zG); exact rfl; exact rfl; exact tf) | ((with_reducible apply zU); exact rfl; exact rfl) | ((with_reducible apply zD); exact rfl; exact rfl) | ((with_reducible apply zB); exact rfl; exact rfl)))
  ((with_reducible first | apply q_retR | apply q_retN); exact rl)
  rfl
theorem repeat3_A : AC Tryz.prog 81 [isl [1], I 3] (isl (onesL 3)) := by
  have w : AC Tryz.prog 124 [.val (.int .u64 1), .val (.int .u64 3)] (.tuple [.val (.int .u64 0), .val (.int .u64 3)]) := bitsMul_A 3 (by decide)
  refine ac_body Tryz.func81 rfl (by kernel_rfl) fun w0 ok => ?_; show AWp _ (ctx0 w0 ok _) _ (ARet _ _ _) (entry _)
  (repeat' (first | (with_reducible first | intro hg | refine mv (by constructor) ?_ | refine awp_loopU ?_ | refine awpL_step ?_) | ((with_reducible first | refine zR ?_ ?_ | refine zW mixed ?_ ?_); exact kr) | ((with_reducible apply zK); exact rfl; exact tf) | ((with_reducible apply zCD); exact rfl) | ((with_reducible apply zCN); exact rfl) | ((with_reducible apply zC); exact rfl) | ((with_reducible refine zX ?_ ?_); exact rfl) | ((with_reducible refine zE (And.intro ?_ ?_)); exact kr) | (with_reducible refine zE ?_) | ((with_reducible apply r_setV); (first | exact o_copy (n := 3) (m := 1) (r := .d (I 1)) (cs := [I 1]) rfl rfl (by decide) (.sl rfl) rfl (by decide) (by decide) rfl rfl | exact o_copy (n := 2) (m := 1) (r := .d (I 1)) rfl rfl (by decide) (.own rfl rfl) (by rfl) (by decide) (by decide) rfl rfl | exact o_copy (n := 1) (m := 2) (r := .d (I 1)) rfl rfl (by decide) (.own rfl rfl) (by rfl) (by decide) (by decide) rfl rfl)) | ((with_reducible apply zP); (first | exact o_conv (k' := .u64) (r := 1) rfl (by decide) | exact o_conv (k' := .u64) (r := 3) rfl (by decide) | exact o_conv (k' := .i64) (r := 3) rfl (by decide) | exact o_sliceOL (l := 1) rfl rfl (by decide) | exact o_sliceOH (h := 1) rfl rfl (by decide) | exact o_sliceOL (l := 2) rfl rfl (by decide) | exact o_sliceOH (h := 2) rfl rfl (by decide) | exact dp | exact oc rfl (w))) | ((with_reducible apply zN); (first | exact dn | exact o_makeSl (n := 3) rfl (by decide) (by decide) rfl)) | ((with_reducible apply zA); exact da) | ((with_reducible apply zS); exact ds) | ((with_reducible apply zY); exact rfl; exact rfl; exact tf) | ((with_reducible apply zG); exact rfl; exact rfl; exact tf) | ((with_reducible apply zU); exact rfl; exact rfl) | ((with_reducible apply zD); exact rfl; exact rfl) | ((with_reducible apply zB); exact rfl; exact rfl)))
  ((with_reducible first | apply q_retR | apply q_retN); exact rl)
  rfl
theorem repeat_A (n : Nat) (h1 : 1 ≤ n) (h3 : n ≤ 3) : AC Tryz.prog 81 [isl [1], I n] (isl (onesL n)) := by
  match n, h1, h3 with
  | 1, _, _ => exact repeat1_A
  | 2, _, _ => exact repeat2_A
  | 3, _, _ => exact repeat3_A
theorem ones_prf {n s : Nat} (h1 : 1 ≤ s) (h6 : s ≤ 6) : PrfOk n s (onesL n) := ⟨h1, h6, lst_length _ _, fun x hx => by
  unfold onesL lst at hx
  obtain ⟨i, _, rfl⟩ := List.mem_map.1 hx
  decide⟩
/-- The first number of steps from k on that settles with the weights 1, of so many; 0: none. -/
def fstS (c : List Rg) (den : Int) : Nat → Nat → Nat
  | _, 0 => 0
  | k, f + 1 => bif decide (nrm c den k (onesL c.length) < 1) then k else fstS c den (k + 1) f
theorem fstS_rng {c : List Rg} {den : Int} : ∀ f k, fstS c den k f = 0 ∨ (k ≤ fstS c den k f ∧ fstS c den k f < k + f)
  | 0, k => .inl rfl
  | f + 1, k => by
    unfold fstS
    cases decide (nrm c den k (onesL c.length) < 1)
    · rcases fstS_rng (c := c) (den := den) f (k + 1) with h | h
      · exact .inl h
      · refine .inr ?_
        show k ≤ fstS c den (k + 1) f ∧ fstS c den (k + 1) f < k + (f + 1)
        omega
    · refine .inr ?_
      show k ≤ k ∧ k < k + (f + 1)
      omega
theorem settlingOf_err (c : List Rg) (den : Int) (hm : c.length ≤ 140737488355328) (h : loE c den ≠ 0) : AC Tryz.prog 29 [loV c den] (.tuple [.agg [I 0, nilV], I (loE c den)]) := by
  have w1 := checkLoop_A c den hm
  generalize loE c den = u at *
  refine ac_body Tryz.func29 rfl (by kernel_rfl) fun w0 ok => ?_; show AWp _ (ctx0 w0 ok _) _ (ARet _ _ _) (entry _)
  (repeat' (first | (with_reducible first | intro hg | refine mv (by constructor) ?_) | ((with_reducible first | refine zR ?_ ?_ | refine zW mixed ?_ ?_); exact kr) | ((with_reducible apply zK); exact rfl; exact tf) | ((with_reducible apply zCD); exact rfl) | ((with_reducible apply zCN); exact rfl) | ((with_reducible apply zC); exact rfl) | ((with_reducible refine zX ?_ ?_); exact rfl) | ((with_reducible refine zE (And.intro ?_ ?_)); exact kr) | (with_reducible refine zE ?_) | ((with_reducible apply zP); (first | exact dp | exact oc rfl (w1))) | ((with_reducible apply zN); exact dn) | ((with_reducible apply zA); exact da) | ((with_reducible apply zS); exact ds) | ((with_reducible apply zY); exact rfl; exact rfl; exact tf) | ((with_reducible apply zG); exact rfl; exact rfl; exact tf) | ((with_reducible apply zU); exact rfl; exact rfl) | ((with_reducible apply zD); exact rfl; exact rfl) | ((with_reducible apply zB); exact rfl; exact rfl)))
  ((with_reducible first | apply q_retR | apply q_retN); exact rl)
  rfl
def stgV (n k : Nat) : DV := bif k == 0 then .agg [I 0, nilV] else .agg (prfC k (onesL n))
theorem settlingOf_q (c : List Rg) (den : Int) (h : loE c den = 0) : AC Tryz.prog 29 [loV c den] (.tuple [stgV c.length (fstS c den 1 6), I (bif fstS c den 1 6 == 0 then 12 else 0)]) := by
  have hL := loE_ok h
  have w1 := checkLoop_A c den (by have := hL.l3; omega)
  rw [h] at w1
  have w2 := repeat_A c.length hL.l1 hL.l3
  have hl3 := hL.l3
  obtain ⟨R, hR⟩ : ∃ R, R = fstS c den 1 6 := ⟨_, rfl⟩
  rw [← hR]
  refine ac_body Tryz.func29 rfl (by kernel_rfl) fun w0 ok => ?_; show AWp _ (ctx0 w0 ok _) _ (ARet _ _ _) (entry _)
  (repeat' (first | (with_reducible first | intro hg | refine mv (by constructor) ?_) | ((with_reducible first | refine zR ?_ ?_ | refine zW mixed ?_ ?_); exact kr) | ((with_reducible apply zK); exact rfl; exact tf) | ((with_reducible apply zCD); exact rfl) | ((with_reducible apply zCN); exact rfl) | ((with_reducible apply zC); exact rfl) | ((with_reducible refine zX ?_ ?_); exact rfl) | ((with_reducible refine zE (And.intro ?_ ?_)); exact kr) | (with_reducible refine zE ?_) | ((with_reducible apply zP); (first | exact dp | exact oc rfl (w1))) | ((with_reducible apply zN); exact dn) | ((with_reducible apply zA); exact da) | ((with_reducible apply zS); exact ds) | ((with_reducible apply zY); exact rfl; exact rfl; exact tf) | ((with_reducible apply zG); exact rfl; exact rfl; exact tf) | ((with_reducible apply zU); exact rfl; exact rfl) | ((with_reducible apply zD); exact rfl; exact rfl) | ((with_reducible apply zB); exact rfl; exact rfl)))
  refine awp_loopL (α := Nat) (fun k => [(1, .ptr 1 0), (2, .ptr 2 0), (5, .d (I (k + 1 : Nat)))]) (fun _ => [(1, ⟨24, [rgV c, I den]⟩), (2, ⟨54, [I 0, nilV]⟩)]) (fun k => k ≤ 6 ∧ R = fstS c den (k + 1) (6 - k)) (fun k => 6 - k) 0 ⟨Nat.zero_le _, hR⟩ (And.intro rfl (And.intro rfl (And.intro rfl trivial))) (And.intro rfl (And.intro rfl trivial)) fun k ⟨hk, hE⟩ => ?_
  by_cases hlt : k < 6
  rotate_left
  · obtain rfl : k = 6 := by omega
    have hE : R = 0 := hE
    rw [hE]
    (repeat' (first | (with_reducible first | intro hg | refine mv (by constructor) ?_) | ((with_reducible first | refine zR ?_ ?_ | refine zW mixed ?_ ?_); exact kr) | ((with_reducible apply zK); exact rfl; exact tf) | ((with_reducible apply zCD); exact rfl) | ((with_reducible apply zCN); exact rfl) | ((with_reducible apply zC); exact rfl) | ((with_reducible refine zX ?_ ?_); exact rfl) | ((with_reducible refine zE (And.intro ?_ ?_)); exact kr) | (with_reducible refine zE ?_) | ((with_reducible apply zP); exact dp) | ((with_reducible apply zN); exact dn) | ((with_reducible apply zA); exact da) | ((with_reducible apply zS); exact ds) | ((with_reducible apply zY); exact rfl; exact rfl; exact tf) | ((with_reducible apply zG); exact rfl; exact rfl; exact tf) | ((with_reducible apply zU); exact rfl; exact rfl) | ((with_reducible apply zD); exact rfl; exact rfl) | ((with_reducible apply zB); exact rfl; exact rfl)))
    ((with_reducible first | apply q_retR | apply q_retN); exact rl)
    rfl
  have hp := ones_prf (n := c.length) (s := k + 1) (by omega) (by omega)
  have w3 := norm_q c den hL (k + 1) (onesL c.length) hp
  have w4 := settles_q (nrm c den (k + 1) (onesL c.length))
  obtain ⟨f, hf⟩ : ∃ f, 6 - k = f + 1 := ⟨6 - k - 1, by omega⟩
  have hf2 : 6 - (k + 1) = f := by omega
  rw [hf] at hE
  have hE : R = bif decide (nrm c den (k + 1) (onesL c.length) < 1) then k + 1 else fstS c den (k + 1 + 1) f := hE
  clear hR hL
  cases hd : decide (nrm c den (k + 1) (onesL c.length) < 1)
  · rw [hd] at w4 hE
    have hE : R = fstS c den (k + 1 + 1) (6 - (k + 1)) := by rw [hf2]; exact hE
    generalize qF (nrm c den (k + 1) (onesL c.length)) = x at *
    (repeat' (first | (with_reducible first | intro hg | refine mv (by constructor) ?_) | ((with_reducible first | refine zR ?_ ?_ | refine zW mixed ?_ ?_); exact kr) | ((with_reducible apply zK); exact rfl; exact tf) | ((with_reducible apply zCD); exact rfl) | ((with_reducible apply zCN); exact rfl) | ((with_reducible apply zC); exact rfl) | ((with_reducible refine zX ?_ ?_); exact rfl) | ((with_reducible refine zE (And.intro ?_ ?_)); exact kr) | (with_reducible refine zE ?_) | ((with_reducible apply zP); (first | exact o_buildSlD rfl (by decide) rfl | exact dp | exact oc rfl (w2) | exact oc rfl (w3) | exact oc rfl (w4))) | ((with_reducible apply zN); exact dn) | ((with_reducible apply zA); exact da) | ((with_reducible apply zS); exact ds) | ((with_reducible apply zY); exact rfl; exact rfl; exact tf) | ((with_reducible apply zG); exact rfl; exact rfl; exact tf) | ((with_reducible apply zU); exact rfl; exact rfl) | ((with_reducible apply zD); exact rfl; exact rfl) | ((with_reducible apply zB); exact rfl; exact rfl)))
    exact ⟨k + 1, ⟨hlt, hE⟩, by omega, (And.intro rfl (And.intro rfl (And.intro (congrArg (fun n : Int => AV.d (I n)) (by omega)) trivial))), (And.intro rfl (And.intro rfl trivial))⟩
  · rw [hd] at w4 hE
    have hE : R = k + 1 := hE
    rw [hE]
    generalize qF (nrm c den (k + 1) (onesL c.length)) = x at *
    (repeat' (first | (with_reducible first | intro hg | refine mv (by constructor) ?_) | ((with_reducible first | refine zR ?_ ?_ | refine zW mixed ?_ ?_); exact kr) | ((with_reducible apply zK); exact rfl; exact tf) | ((with_reducible apply zCD); exact rfl) | ((with_reducible apply zCN); exact rfl) | ((with_reducible apply zC); exact rfl) | ((with_reducible refine zX ?_ ?_); exact rfl) | ((with_reducible refine zE (And.intro ?_ ?_)); exact kr) | (with_reducible refine zE ?_) | ((with_reducible apply zP); (first | exact o_buildSlD rfl (by decide) rfl | exact dp | exact oc rfl (w2) | exact oc rfl (w3) | exact oc rfl (w4))) | ((with_reducible apply zN); exact dn) | ((with_reducible apply zA); exact da) | ((with_reducible apply zS); exact ds) | ((with_reducible apply zY); exact rfl; exact rfl; exact tf) | ((with_reducible apply zG); exact rfl; exact rfl; exact tf) | ((with_reducible apply zU); exact rfl; exact rfl) | ((with_reducible apply zD); exact rfl; exact rfl) | ((with_reducible apply zB); exact rfl; exact rfl)))
    ((with_reducible first | apply q_retR | apply q_retN); exact rl)
    rfl
theorem qsettlingOf_A (c : List Rg) (den : Int) (h : LoopOk c den) : AC Tryz.prog 30 [loV c den] (.tuple [stgV c.length (fstS c den 1 6), B (!(fstS c den 1 6 == 0))]) := by
  have hl1 := h.l1
  have hl3 := h.l3
  obtain ⟨R, hR⟩ : ∃ R, R = fstS c den 1 6 := ⟨_, rfl⟩
  rw [← hR]
  refine ac_body Tryz.func30 rfl (by kernel_rfl) fun w0 ok => ?_; show AWp _ (ctx0 w0 ok _) _ (ARet _ _ _) (entry _)
  (repeat' (first | (with_reducible first | intro hg | refine mv (by constructor) ?_) | ((with_reducible first | refine zR ?_ ?_ | refine zW mixed ?_ ?_); exact kr) | ((with_reducible apply zK); exact rfl; exact tf) | ((with_reducible apply zCD); exact rfl) | ((with_reducible apply zCN); exact rfl) | ((with_reducible apply zC); exact rfl) | ((with_reducible refine zX ?_ ?_); exact rfl) | ((with_reducible refine zE (And.intro ?_ ?_)); exact kr) | (with_reducible refine zE ?_) | ((with_reducible apply zP); exact dp) | ((with_reducible apply zN); exact dn) | ((with_reducible apply zA); exact da) | ((with_reducible apply zS); exact ds) | ((with_reducible apply zY); exact rfl; exact rfl; exact tf) | ((with_reducible apply zG); exact rfl; exact rfl; exact tf) | ((with_reducible apply zU); exact rfl; exact rfl) | ((with_reducible apply zD); exact rfl; exact rfl) | ((with_reducible apply zB); exact rfl; exact rfl)))
  refine awp_loopL (α := Nat) (fun k => [(1, .ptr 1 0), (2, .ptr 2 0), (4, .d (I (k + 1 : Nat)))]) (fun _ => [(1, ⟨24, [rgV c, I den]⟩), (2, ⟨54, [I 0, nilV]⟩)]) (fun k => k ≤ 6 ∧ R = fstS c den (k + 1) (6 - k)) (fun k => 6 - k) 0 ⟨Nat.zero_le _, hR⟩ (And.intro rfl (And.intro rfl (And.intro rfl trivial))) (And.intro rfl (And.intro rfl trivial)) fun k ⟨hk, hE⟩ => ?_
  by_cases hlt : k < 6
  rotate_left
  · obtain rfl : k = 6 := by omega
    have hE : R = 0 := hE
    rw [hE]
    (repeat' (first | (with_reducible first | intro hg | refine mv (by constructor) ?_) | ((with_reducible first | refine zR ?_ ?_ | refine zW mixed ?_ ?_); exact kr) | ((with_reducible apply zK); exact rfl; exact tf) | ((with_reducible apply zCD); exact rfl) | ((with_reducible apply zCN); exact rfl) | ((with_reducible apply zC); exact rfl) | ((with_reducible refine zX ?_ ?_); exact rfl) | ((with_reducible refine zE (And.intro ?_ ?_)); exact kr) | (with_reducible refine zE ?_) | ((with_reducible apply zP); exact dp) | ((with_reducible apply zN); exact dn) | ((with_reducible apply zA); exact da) | ((with_reducible apply zS); exact ds) | ((with_reducible apply zY); exact rfl; exact rfl; exact tf) | ((with_reducible apply zG); exact rfl; exact rfl; exact tf) | ((with_reducible apply zU); exact rfl; exact rfl) | ((with_reducible apply zD); exact rfl; exact rfl) | ((with_reducible apply zB); exact rfl; exact rfl)))
    ((with_reducible first | apply q_retR | apply q_retN); exact rl)
    rfl
  (repeat' (first | (with_reducible first | intro hg | refine mv (by constructor) ?_) | ((with_reducible first | refine zR ?_ ?_ | refine zW mixed ?_ ?_); exact kr) | ((with_reducible apply zK); exact rfl; exact tf) | ((with_reducible apply zCD); exact rfl) | ((with_reducible apply zCN); exact rfl) | ((with_reducible apply zC); exact rfl) | ((with_reducible refine zX ?_ ?_); exact rfl) | ((with_reducible refine zE (And.intro ?_ ?_)); exact kr) | (with_reducible refine zE ?_) | ((with_reducible apply zP); exact dp) | ((with_reducible apply zN); exact dn) | ((with_reducible apply zA); exact da) | ((with_reducible apply zS); exact ds) | ((with_reducible apply zY); exact rfl; exact rfl; exact tf) | ((with_reducible apply zG); exact rfl; exact rfl; exact tf) | ((with_reducible apply zU); exact rfl; exact rfl) | ((with_reducible apply zD); exact rfl; exact rfl) | ((with_reducible apply zB); exact rfl; exact rfl)))
  refine awp_loopL3 (fun (j b cap : Nat) => (1, .ptr 1 0) :: (2, .ptr 2 0) :: (4, .d (I (k + 1 : Nat))) :: (5, .ptr 5 0) :: (6, .d (I j)) :: lkF PN b cap 1 j) (fun j b cap => (1, ⟨24, [rgV c, I den]⟩) :: (2, ⟨54, [I 0, nilV]⟩) :: (5, ⟨54, [I (k + 1 : Nat), lkC b cap j]⟩) :: lkM PN 3 (ivs (onesL j)) j) (fun j b cap => j ≤ c.length ∧ LkJ b cap j) (fun j _ _ => c.length - j) 0 0 0 ⟨Nat.zero_le _, .inl rfl⟩ (And.intro rfl (And.intro rfl (And.intro rfl (And.intro rfl (And.intro rfl trivial))))) (And.intro rfl (And.intro rfl (And.intro rfl trivial))) fun j b cap ⟨hj, hb⟩ => ?_
  by_cases hjn : j < c.length
  · have hsn : ivs (onesL j) ++ [I 1] = ivs (onesL (j + 1)) := ivs_snoc _ _ rfl
    have hln : (ivs (onesL j)).length = j * 1 := by rw [ivs_len, Nat.mul_one]
    clear hE hR
    rcases j with _ | j
    · (repeat' ((fail_if_success (with_reducible show AWp _ _ (.region 8 _ _) _ _)); (first | (with_reducible first | intro hg | refine mv (by constructor) ?_) | ((with_reducible first | refine zR ?_ ?_ | refine zW mixed ?_ ?_); exact kr) | ((with_reducible apply zK); exact rfl; exact tf) | ((with_reducible apply zCD); exact rfl) | ((with_reducible apply zCN); exact rfl) | ((with_reducible apply zC); exact rfl) | ((with_reducible refine zX ?_ ?_); exact rfl) | ((with_reducible refine zE (And.intro ?_ ?_)); exact kr) | (with_reducible refine zE ?_) | ((with_reducible apply zP); exact dp) | ((with_reducible apply zN); exact dn) | ((with_reducible apply zA); exact da) | ((with_reducible apply zS); exact ds) | ((with_reducible apply zY); exact rfl; exact rfl; exact tf) | ((with_reducible apply zG); exact rfl; exact rfl; exact tf) | ((with_reducible apply zU); exact rfl; exact rfl) | ((with_reducible apply zD); exact rfl; exact rfl) | ((with_reducible apply zB); exact rfl; exact rfl))))
      refine awp_regionL ?_
      ((refine wpl_run (l1 := [_, _, _, _]) rfl ?_ ?_); exact kr; (repeat' (first | (with_reducible first | intro hg | refine mv (by constructor) ?_) | ((with_reducible first | refine zR ?_ ?_ | refine zW mixed ?_ ?_); exact kr) | ((with_reducible apply zK); exact rfl; exact tf) | ((with_reducible apply zCD); exact rfl) | ((with_reducible apply zCN); exact rfl) | ((with_reducible apply zC); exact rfl) | ((with_reducible refine zX ?_ ?_); exact rfl) | ((with_reducible refine zE (And.intro ?_ ?_)); exact kr) | (with_reducible refine zE ?_) | ((with_reducible apply zP); exact dp) | ((with_reducible apply zN); exact dn) | ((with_reducible apply zA); exact da) | ((with_reducible apply zS); exact ds) | ((with_reducible apply zY); exact rfl; exact rfl; exact tf) | ((with_reducible apply zG); exact rfl; exact rfl; exact tf) | ((with_reducible apply zU); exact rfl; exact rfl) | ((with_reducible apply zD); exact rfl; exact rfl) | ((with_reducible apply zB); exact rfl; exact rfl))))
      refine wpl_turn (turns_pin 23 23 PN (by rfl) (by rfl) (by rfl) (by rfl) (by kernel_rfl)) fun x => ?_
      ((refine wpl_run (l1 := [_, _]) rfl ?_ ?_); exact kr; (repeat' (first | (with_reducible first | intro hg | refine mv (by constructor) ?_) | ((with_reducible first | refine zR ?_ ?_ | refine zW mixed ?_ ?_); exact kr) | ((with_reducible apply zK); exact rfl; exact tf) | ((with_reducible apply zCD); exact rfl) | ((with_reducible apply zCN); exact rfl) | ((with_reducible apply zC); exact rfl) | ((with_reducible refine zX ?_ ?_); exact rfl) | ((with_reducible refine zE (And.intro ?_ ?_)); exact kr) | (with_reducible refine zE ?_) | ((with_reducible apply zP); exact dp) | ((with_reducible apply zN); exact dn) | ((with_reducible apply zA); exact da) | ((with_reducible apply zS); exact ds) | ((with_reducible apply zY); exact rfl; exact rfl; exact tf) | ((with_reducible apply zG); exact rfl; exact rfl; exact tf) | ((with_reducible apply zU); exact rfl; exact rfl) | ((with_reducible apply zD); exact rfl; exact rfl) | ((with_reducible apply zB); exact rfl; exact rfl))))
      refine wpl_nil ?_
      (repeat' (first | (with_reducible first | intro hg | refine mv (by constructor) ?_) | ((with_reducible first | refine zR ?_ ?_ | refine zW mixed ?_ ?_); exact kr) | ((with_reducible apply zK); exact rfl; exact tf) | ((with_reducible apply zCD); exact rfl) | ((with_reducible apply zCN); exact rfl) | ((with_reducible apply zC); exact rfl) | ((with_reducible refine zX ?_ ?_); exact rfl) | ((with_reducible refine zE (And.intro ?_ ?_)); exact kr) | (with_reducible refine zE ?_) | ((with_reducible apply zP); exact dp) | ((with_reducible apply zN); exact dn) | ((with_reducible apply zA); exact da) | ((with_reducible apply zS); exact ds) | ((with_reducible apply zY); exact rfl; exact rfl; exact tf) | ((with_reducible apply zG); exact rfl; exact rfl; exact tf) | ((with_reducible apply zU); exact rfl; exact rfl) | ((with_reducible apply zD); exact rfl; exact rfl) | ((with_reducible apply zB); exact rfl; exact rfl)))
      exact ⟨1, x.1.1, x.1.2, ⟨hjn, LkJ.of x⟩, by omega, (And.intro rfl (And.intro rfl (And.intro rfl (And.intro rfl (And.intro rfl (And.intro rfl trivial)))))), (And.intro rfl (And.intro rfl (And.intro rfl (And.intro (congrArg (fun l => some (Blk.mk _ l)) hsn) trivial))))⟩
    · obtain ⟨hb1, hb2⟩ := hb.resolve_left (by omega)
      (repeat' ((fail_if_success (with_reducible show AWp _ _ (.region 8 _ _) _ _)); (first | (with_reducible first | intro hg | refine mv (by constructor) ?_) | ((with_reducible first | refine zR ?_ ?_ | refine zW mixed ?_ ?_); exact kr) | ((with_reducible apply zK); exact rfl; exact tf) | ((with_reducible apply zCD); exact rfl) | ((with_reducible apply zCN); exact rfl) | ((with_reducible apply zC); exact rfl) | ((with_reducible refine zX ?_ ?_); exact rfl) | ((with_reducible refine zE (And.intro ?_ ?_)); exact kr) | (with_reducible refine zE ?_) | ((with_reducible apply zP); exact dp) | ((with_reducible apply zN); exact dn) | ((with_reducible apply zA); exact da) | ((with_reducible apply zS); exact ds) | ((with_reducible apply zY); exact rfl; exact rfl; exact tf) | ((with_reducible apply zG); exact rfl; exact rfl; exact tf) | ((with_reducible apply zU); exact rfl; exact rfl) | ((with_reducible apply zD); exact rfl; exact rfl) | ((with_reducible apply zB); exact rfl; exact rfl))))
      refine awp_regionL ?_
      ((refine wpl_run (l1 := [_, _]) rfl ?_ ?_); exact kr; (repeat' (first | (with_reducible first | intro hg | refine mv (by constructor) ?_) | ((with_reducible first | refine zR ?_ ?_ | refine zW mixed ?_ ?_); exact kr) | ((with_reducible apply zK); exact rfl; exact tf) | ((with_reducible apply zCD); exact rfl) | ((with_reducible apply zCN); exact rfl) | ((with_reducible apply zC); exact rfl) | ((with_reducible refine zX ?_ ?_); exact rfl) | ((with_reducible refine zE (And.intro ?_ ?_)); exact kr) | (with_reducible refine zE ?_) | ((with_reducible apply zP); exact dp) | ((with_reducible apply zN); exact dn) | ((with_reducible apply zA); exact da) | ((with_reducible apply zS); exact ds) | ((with_reducible apply zY); exact rfl; exact rfl; exact tf) | ((with_reducible apply zG); exact rfl; exact rfl; exact tf) | ((with_reducible apply zU); exact rfl; exact rfl) | ((with_reducible apply zD); exact rfl; exact rfl) | ((with_reducible apply zB); exact rfl; exact rfl))))
      refine wpl_turn (turns_link 21 PN (by rfl) (by rfl) (by rfl) (by rfl) hb1 hb2) fun _ => ?_
      ((refine wpl_run (l1 := [_, _]) rfl ?_ ?_); exact kr; (repeat' (first | (with_reducible first | intro hg | refine mv (by constructor) ?_) | ((with_reducible first | refine zR ?_ ?_ | refine zW mixed ?_ ?_); exact kr) | ((with_reducible apply zK); exact rfl; exact tf) | ((with_reducible apply zCD); exact rfl) | ((with_reducible apply zCN); exact rfl) | ((with_reducible apply zC); exact rfl) | ((with_reducible refine zX ?_ ?_); exact rfl) | ((with_reducible refine zE (And.intro ?_ ?_)); exact kr) | (with_reducible refine zE ?_) | ((with_reducible apply zP); exact dp) | ((with_reducible apply zN); exact dn) | ((with_reducible apply zA); (first | ((apply o_app); (case hx => exact rfl); (case hm => exact rfl); (case hy => exact .own rfl rfl); (case hty => exact rfl); (case hl => solve | exact hln | rfl); (case hcl => solve | rfl | exact hln | simp); (case hpos => omega); (case hb => omega); (case hb2 => omega); (case hnew => exact rfl)) | ((apply o_app); (case hx => exact rfl); (case hm => exact rfl); (case hy => exact .sl rfl); (case hty => exact rfl); (case hl => solve | exact hln | rfl); (case hcl => solve | rfl | exact hln | simp); (case hpos => omega); (case hb => omega); (case hb2 => omega); (case hnew => exact rfl)) | exact da)) | ((with_reducible apply zS); exact ds) | ((with_reducible apply zY); exact rfl; exact rfl; exact tf) | ((with_reducible apply zG); exact rfl; exact rfl; exact tf) | ((with_reducible apply zU); exact rfl; exact rfl) | ((with_reducible apply zD); exact rfl; exact rfl) | ((with_reducible apply zB); exact rfl; exact rfl))))
      refine wpl_turn (turns_pin 23 23 PN (by rfl) (by rfl) (by rfl) (by rfl) (by kernel_rfl)) fun x => ?_
      ((refine wpl_run (l1 := [_, _]) rfl ?_ ?_); exact kr; (repeat' (first | (with_reducible first | intro hg | refine mv (by constructor) ?_) | ((with_reducible first | refine zR ?_ ?_ | refine zW mixed ?_ ?_); exact kr) | ((with_reducible apply zK); exact rfl; exact tf) | ((with_reducible apply zCD); exact rfl) | ((with_reducible apply zCN); exact rfl) | ((with_reducible apply zC); exact rfl) | ((with_reducible refine zX ?_ ?_); exact rfl) | ((with_reducible refine zE (And.intro ?_ ?_)); exact kr) | (with_reducible refine zE ?_) | ((with_reducible apply zP); exact dp) | ((with_reducible apply zN); exact dn) | ((with_reducible apply zA); exact da) | ((with_reducible apply zS); exact ds) | ((with_reducible apply zY); exact rfl; exact rfl; exact tf) | ((with_reducible apply zG); exact rfl; exact rfl; exact tf) | ((with_reducible apply zU); exact rfl; exact rfl) | ((with_reducible apply zD); exact rfl; exact rfl) | ((with_reducible apply zB); exact rfl; exact rfl))))
      refine wpl_nil ?_
      (repeat' (first | (with_reducible first | intro hg | refine mv (by constructor) ?_) | ((with_reducible first | refine zR ?_ ?_ | refine zW mixed ?_ ?_); exact kr) | ((with_reducible apply zK); exact rfl; exact tf) | ((with_reducible apply zCD); exact rfl) | ((with_reducible apply zCN); exact rfl) | ((with_reducible apply zC); exact rfl) | ((with_reducible refine zX ?_ ?_); exact rfl) | ((with_reducible refine zE (And.intro ?_ ?_)); exact kr) | (with_reducible refine zE ?_) | ((with_reducible apply zP); exact dp) | ((with_reducible apply zN); exact dn) | ((with_reducible apply zA); exact da) | ((with_reducible apply zS); exact ds) | ((with_reducible apply zY); exact rfl; exact rfl; exact tf) | ((with_reducible apply zG); exact rfl; exact rfl; exact tf) | ((with_reducible apply zU); exact rfl; exact rfl) | ((with_reducible apply zD); exact rfl; exact rfl) | ((with_reducible apply zB); exact rfl; exact rfl)))
      exact ⟨j + 1 + 1, x.1.1, x.1.2, ⟨hjn, LkJ.of x⟩, by omega, (And.intro rfl (And.intro rfl (And.intro rfl (And.intro rfl (And.intro rfl (And.intro rfl trivial)))))), (And.intro rfl (And.intro rfl (And.intro rfl (And.intro (congrArg (fun l => some (Blk.mk _ l)) hsn) trivial))))⟩
  obtain rfl : j = c.length := by omega
  have hp := ones_prf (n := c.length) (s := k + 1) (by omega) (by omega)
  have w3 := qsettles_A c den h (k + 1) (onesL c.length) hp
  obtain ⟨f, hf⟩ : ∃ f, 6 - k = f + 1 := ⟨6 - k - 1, by omega⟩
  have hf2 : 6 - (k + 1) = f := by omega
  rw [hf] at hE
  have hE : R = bif decide (nrm c den (k + 1) (onesL c.length) < 1) then k + 1 else fstS c den (k + 1 + 1) f := hE
  clear hR h
  obtain ⟨m, hm⟩ : ∃ m, c.length = m + 1 := ⟨c.length - 1, by omega⟩
  obtain ⟨hb1, hb2⟩ := hb.resolve_left (by omega)
  have hlkC : lkC b cap c.length = linkC b cap c.length := by rw [hm]; rfl
  have hcell : DV.slice c.length ((ivs (onesL c.length)).take (c.length * 1)) = isl (onesL c.length) := by
    rw [List.take_of_length_le (by rw [ivs_len]; omega)]
    show _ = DV.slice (onesL c.length).length _
    rw [lst_length]
  refine awp_cut ((1, .ptr 1 0) :: (2, .ptr 2 0) :: (4, .d (I (k + 1 : Nat))) :: (5, .ptr 5 0) :: (6, .d (I c.length)) :: [(PN, linkP b cap 1)]) ((1, ⟨24, [rgV c, I den]⟩) :: (2, ⟨54, [I 0, nilV]⟩) :: (5, ⟨54, [I (k + 1 : Nat), linkC b cap c.length]⟩) :: [(PN, ⟨3, ivs (onesL c.length)⟩)]) (And.intro rfl (And.intro rfl (And.intro rfl (And.intro rfl (And.intro rfl (And.intro (by rw [hm]; rfl) trivial)))))) (And.intro rfl (And.intro rfl (And.intro (by rw [← hlkC]; rfl) (And.intro (by rw [hm]; rfl) trivial)))) ?_
  refine awp_turn (turns_unlink 5 1 PN (by rfl) (by rfl) (by rfl) (by rfl) (by rfl) (by decide) hb1 hb2) fun _ => ?_
  refine awp_cut [(1, .ptr 1 0), (2, .ptr 2 0), (4, .d (I (k + 1 : Nat))), (5, .ptr 5 0), (6, .d (I c.length))] [(1, ⟨24, [rgV c, I den]⟩), (2, ⟨54, [I 0, nilV]⟩), (5, ⟨54, prfC (k + 1) (onesL c.length)⟩)] (And.intro rfl (And.intro rfl (And.intro rfl (And.intro rfl (And.intro rfl trivial))))) (And.intro rfl (And.intro rfl (And.intro (congrArg (fun x => some (Blk.mk _ [I (k + 1 : Nat), x])) hcell) trivial))) ?_
  cases hd : decide (nrm c den (k + 1) (onesL c.length) < 1)
  · rw [hd] at w3 hE
    have hE : R = fstS c den (k + 1 + 1) (6 - (k + 1)) := by rw [hf2]; exact hE
    (repeat' (first | (with_reducible first | intro hg | refine mv (by constructor) ?_) | ((with_reducible first | refine zR ?_ ?_ | refine zW mixed ?_ ?_); exact kr) | ((with_reducible apply zK); exact rfl; exact tf) | ((with_reducible apply zCD); exact rfl) | ((with_reducible apply zCN); exact rfl) | ((with_reducible apply zC); exact rfl) | ((with_reducible refine zX ?_ ?_); exact rfl) | ((with_reducible refine zE (And.intro ?_ ?_)); exact kr) | (with_reducible refine zE ?_) | ((with_reducible apply zP); (first | exact dp | exact oc rfl (w3))) | ((with_reducible apply zN); exact dn) | ((with_reducible apply zA); exact da) | ((with_reducible apply zS); exact ds) | ((with_reducible apply zY); exact rfl; exact rfl; exact tf) | ((with_reducible apply zG); exact rfl; exact rfl; exact tf) | ((with_reducible apply zU); exact rfl; exact rfl) | ((with_reducible apply zD); exact rfl; exact rfl) | ((with_reducible apply zB); exact rfl; exact rfl)))
    exact ⟨k + 1, ⟨hlt, hE⟩, by omega, (And.intro rfl (And.intro rfl (And.intro (congrArg (fun n : Int => AV.d (I n)) (by omega)) trivial))), (And.intro rfl (And.intro rfl trivial))⟩
  · rw [hd] at w3 hE
    have hE : R = k + 1 := hE
    rw [hE]
    (repeat' (first | (with_reducible first | intro hg | refine mv (by constructor) ?_) | ((with_reducible first | refine zR ?_ ?_ | refine zW mixed ?_ ?_); exact kr) | ((with_reducible apply zK); exact rfl; exact tf) | ((with_reducible apply zCD); exact rfl) | ((with_reducible apply zCN); exact rfl) | ((with_reducible apply zC); exact rfl) | ((with_reducible refine zX ?_ ?_); exact rfl) | ((with_reducible refine zE (And.intro ?_ ?_)); exact kr) | (with_reducible refine zE ?_) | ((with_reducible apply zP); (first | exact dp | exact oc rfl (w3))) | ((with_reducible apply zN); exact dn) | ((with_reducible apply zA); exact da) | ((with_reducible apply zS); exact ds) | ((with_reducible apply zY); exact rfl; exact rfl; exact tf) | ((with_reducible apply zG); exact rfl; exact rfl; exact tf) | ((with_reducible apply zU); exact rfl; exact rfl) | ((with_reducible apply zD); exact rfl; exact rfl) | ((with_reducible apply zB); exact rfl; exact rfl)))
    ((with_reducible first | apply q_retR | apply q_retN); exact rl)
    rfl

end Go.Proofs.YtiabcffcbhlbiaaGreat
