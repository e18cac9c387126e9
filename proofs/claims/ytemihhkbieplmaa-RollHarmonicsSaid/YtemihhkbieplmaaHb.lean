/- Harmonics: HarmonicsOf, QuartersOf and their references. -/
import Derived.Test.YtemihhkbieplmaaHp
import Derived.Test.YtemihhkbieplmaaHm
set_option linter.unusedVariables false
set_option linter.unusedSimpArgs false
namespace Go.Proofs.Ytemihhkbieplmaa
open Go.RowKit
set_option maxRecDepth 20000
set_option maxHeartbeats 8000000

abbrev G4 : TypeId := 116
theorem nt_false {b : Bool} (h : (!b) = false) : b = true := by cases b <;> first | rfl | cases h
theorem harmonicsOf_err (xs : List Int) (nm : ByteArray) (p o : Int) (hm : xs.length ≤ 140737488355328) (hs : nm.size ≤ 140737488355328) (hp : I64 p) (he : turnErr xs nm p o ≠ 0) : AC Try.prog 72 [isl xs, drumV nm p o] (.tuple [.agg [I 0, I 0, I 0, I 0, I 0, I 0, I 0, I 0], I (turnErr xs nm p o)]) := by
  refine ac_body Try.func72 rfl (Nat.le_of_ble_eq_true (by kernel_rfl)) fun w0 ok => ?_; show AWp _ ⟨w0, ok, _⟩ _ (ARet _ _ _) (entry _)
  (repeat' (first | (with_reducible first | intro hg | refine awp_seq ?_ | refine q_seq ?_ | refine q_blk ?_ | refine awp_block ?_ | refine awp_skip ?_ | refine awp_ret ?_ | refine awp_exit ?_ | refine q_seqE ?_ | refine q_seqR ?_ | refine q_blkR ?_ | refine q_blkE ?_) | ((with_reducible refine awp_region ?_ ?_); (focus exact kr)) | ((with_reducible refine awp_region_any mixed ?_ ?_); (focus exact kr)) | ((with_reducible apply awp_condT); (focus exact rfl); (focus exact tt)) | ((with_reducible apply awp_condF); (focus exact rfl); (focus exact ff)) | ((with_reducible apply awp_condD); (focus exact rfl)) | ((with_reducible apply awp_condN); (focus exact rfl)) | ((with_reducible apply awp_cond); (focus exact rfl)) | ((with_reducible refine q_blkX ?_ ?_); (focus exact rfl)) | ((with_reducible refine r_nil (And.intro ?_ ?_)); (focus exact kr)) | (with_reducible refine r_nil ?_) | ((with_reducible apply r_put); (focus (first | exact dp | exact oc rfl (turning_A _ _ _ _ hm hs hp)))) | ((with_reducible apply r_new); (focus exact dn)) | ((with_reducible apply r_app); (focus exact da)) | ((with_reducible apply r_set); (focus exact ds)) | ((with_reducible apply r_putY); (focus exact rfl); (focus exact rfl); (focus exact tf); (focus (first | exact dp | exact oc rfl (turning_A _ _ _ _ hm hs hp)))) | ((with_reducible apply r_newY); (focus exact rfl); (focus exact rfl); (focus exact tf); (focus exact dn)) | ((with_reducible apply r_noT); (focus exact rfl); (focus exact rfl); (focus exact ff)) | ((with_reducible apply r_noF); (focus exact rfl); (focus exact rfl); (focus exact tt)) | ((with_reducible apply r_splitD); (focus exact rfl); (focus exact rfl)) | ((with_reducible apply r_split); (focus exact rfl); (focus exact rfl))))
  ((with_reducible first | apply q_retR | apply q_retN); (focus exact rl))
  rfl
theorem harmonicsOf_ok (xs : List Int) (nm : ByteArray) (p o : Int) (hs : nm.size ≤ 140737488355328) (hp : I64 p) (he : turnErr xs nm p o = 0) :
    AC Try.prog 72 [isl xs, drumV nm p o] (.tuple [.agg (trM (rsum p o xs 0 0) 0 (rsum p o xs 0 1) 0 (rsum p o xs 0 2) 0 (rsum p o xs 0 3) 0 4), I 0]) := by
  obtain ⟨hd, hm, hl, hB⟩ := low2 he
  have hB4 : Bnd 4000000 xs := hB.mono (by omega)
  have b (q : Int) := rsum_bnd (p := p) (o := o) (k0 := 0) (q := q) hB4 (by omega)
  have b0 := b 0
  have b1 := b 1
  have b2 := b 2
  have b3 := b 3
  have ht := turning_A xs nm p o (by omega) hs hp
  rw [he] at ht
  refine ac_body Try.func72 rfl (Nat.le_of_ble_eq_true (by kernel_rfl)) fun w0 ok => ?_; show AWp _ ⟨w0, ok, _⟩ _ (ARet _ _ _) (entry _)
  (repeat' (first | (with_reducible first | intro hg | refine awp_seq ?_ | refine q_seq ?_ | refine q_blk ?_ | refine awp_block ?_ | refine awp_skip ?_ | refine awp_ret ?_ | refine awp_exit ?_ | refine q_seqE ?_ | refine q_seqR ?_ | refine q_blkR ?_ | refine q_blkE ?_ | refine awp_loopU ?_ | refine awpL_step ?_) | ((with_reducible refine awp_region ?_ ?_); (focus exact kr)) | ((with_reducible refine awp_region_any mixed ?_ ?_); (focus exact kr)) | ((with_reducible apply awp_condT); (focus exact rfl); (focus exact tt)) | ((with_reducible apply awp_condF); (focus exact rfl); (focus exact ff)) | ((with_reducible apply awp_condD); (focus exact rfl)) | ((with_reducible apply awp_condN); (focus exact rfl)) | ((with_reducible apply awp_cond); (focus exact rfl)) | ((with_reducible refine q_blkX ?_ ?_); (focus exact rfl)) | ((with_reducible refine r_nil (And.intro ?_ ?_)); (focus exact kr)) | (with_reducible refine r_nil ?_) | ((with_reducible apply r_put); (focus (first | exact dp | exact oc rfl (ht) | exact oc rfl (sums_A _ _ _ xs _ (by omega) hd (by omega) (by omega) hB4) | exact oc rfl (trM_A _ _ _ _ _ _ _ _ (by omega) (by omega) (by omega) (by omega) (by omega) (by omega) (by omega) (by omega))))) | ((with_reducible apply r_new); (focus exact dn)) | ((with_reducible apply r_app); (focus exact da)) | ((with_reducible apply r_set); (focus (first | exact st8 (new := [_, _, _, _, _, _, _, _]) | exact ds))) | ((with_reducible apply r_putY); (focus exact rfl); (focus exact rfl); (focus exact tf); (focus (first | exact dp | exact oc rfl (ht) | exact oc rfl (sums_A _ _ _ xs _ (by omega) hd (by omega) (by omega) hB4) | exact oc rfl (trM_A _ _ _ _ _ _ _ _ (by omega) (by omega) (by omega) (by omega) (by omega) (by omega) (by omega) (by omega))))) | ((with_reducible apply r_newY); (focus exact rfl); (focus exact rfl); (focus exact tf); (focus exact dn)) | ((with_reducible apply r_noT); (focus exact rfl); (focus exact rfl); (focus exact ff)) | ((with_reducible apply r_noF); (focus exact rfl); (focus exact rfl); (focus exact tt)) | ((with_reducible apply r_splitD); (focus exact rfl); (focus exact rfl)) | ((with_reducible apply r_split); (focus exact rfl); (focus exact rfl))))
  ((with_reducible first | apply q_retR | apply q_retN); (focus exact rl))
  rfl
theorem modc_A (n r : Int) (h : -1000 ≤ n ∧ n ≤ 1000) (hr : n % 4 = r) : AC Try.prog 19 [I n, I 4] (I r) := by
  have := mod_A n 4 ⟨by omega, by omega⟩ (by omega) (by omega)
  rwa [hr] at this
theorem bharmonics_A (s0 s1 s2 s3 : Int) (h0 : s0.natAbs ≤ 10000000000) (h1 : s1.natAbs ≤ 10000000000) (h2 : s2.natAbs ≤ 10000000000) (h3 : s3.natAbs ≤ 10000000000) : AC Try.prog 75 [.agg [I s0, I s1, I s2, I s3]] (.agg (trM s0 0 s1 0 s2 0 s3 0 4)) := by
  have c0 : (-10000000000 ≤ s0 ∧ s0 ≤ 10000000000) ∧ (-10000000000 ≤ s1 ∧ s1 ≤ 10000000000) ∧ (-10000000000 ≤ s2 ∧ s2 ≤ 10000000000) ∧ (-10000000000 ≤ s3 ∧ s3 ≤ 10000000000) := by omega
  clear h0 h1 h2 h3
  refine ac_body Try.func75 rfl (Nat.le_of_ble_eq_true (by kernel_rfl)) fun w0 ok => ?_; show AWp _ ⟨w0, ok, _⟩ _ (ARet _ _ _) (entry _)
  (repeat' (first | (with_reducible first | intro hg | refine awp_seq ?_ | refine q_seq ?_ | refine q_blk ?_ | refine awp_block ?_ | refine awp_skip ?_ | refine awp_ret ?_ | refine awp_exit ?_ | refine q_seqE ?_ | refine q_seqR ?_ | refine q_blkR ?_ | refine q_blkE ?_) | ((with_reducible refine awp_region ?_ ?_); (focus exact kr)) | ((with_reducible refine awp_region_any mixed ?_ ?_); (focus exact kr)) | ((with_reducible apply awp_condT); (focus exact rfl); (focus exact tt)) | ((with_reducible apply awp_condF); (focus exact rfl); (focus exact ff)) | ((with_reducible apply awp_condD); (focus exact rfl)) | ((with_reducible apply awp_condN); (focus exact rfl)) | ((with_reducible apply awp_cond); (focus exact rfl)) | ((with_reducible refine q_blkX ?_ ?_); (focus exact rfl)) | ((with_reducible refine r_nil (And.intro ?_ ?_)); (focus exact kr)) | (with_reducible refine r_nil ?_) | ((with_reducible apply r_put); (focus exact dp)) | ((with_reducible apply r_new); (focus exact dn)) | ((with_reducible apply r_app); (focus exact da)) | ((with_reducible apply r_set); (focus exact ds)) | ((with_reducible apply r_putY); (focus exact rfl); (focus exact rfl); (focus exact tf); (focus exact dp)) | ((with_reducible apply r_newY); (focus exact rfl); (focus exact rfl); (focus exact tf); (focus exact dn)) | ((with_reducible apply r_noT); (focus exact rfl); (focus exact rfl); (focus exact ff)) | ((with_reducible apply r_noF); (focus exact rfl); (focus exact rfl); (focus exact tt)) | ((with_reducible apply r_splitD); (focus exact rfl); (focus exact rfl)) | ((with_reducible apply r_split); (focus exact rfl); (focus exact rfl))))
  refine awp_loopL (α := Nat) (fun N => [(1, .ptr 1 0), (2, .ptr 2 0), (3, .ptr 3 0), (4, .d (I (N : Nat)))])
    (fun N => [(1, ⟨70, [I s0, I s1, I s2, I s3]⟩), (2, ⟨G4, [I 0, I 0, I 0, I 0, I 0, I 0, I 0, I 0]⟩), (3, ⟨G4, trM s0 0 s1 0 s2 0 s3 0 N⟩)]) (fun N => N ≤ 4) (fun N => 4 - N) 0 (Nat.zero_le _) (And.intro rfl (And.intro rfl (And.intro rfl (And.intro rfl trivial)))) (And.intro rfl (And.intro rfl (And.intro rfl trivial))) fun N hN => ?_
  by_cases hN4 : N < 4
  · obtain rfl | rfl | rfl | rfl : N = 0 ∨ N = 1 ∨ N = 2 ∨ N = 3 := by omega
    all_goals
      (repeat' (first | (with_reducible first | intro hg | refine awp_seq ?_ | refine q_seq ?_ | refine q_blk ?_ | refine awp_block ?_ | refine awp_skip ?_ | refine awp_ret ?_ | refine awp_exit ?_ | refine q_seqE ?_ | refine q_seqR ?_ | refine q_blkR ?_ | refine q_blkE ?_ | refine awp_loopU ?_ | refine awpL_step ?_) | ((with_reducible refine awp_region ?_ ?_); (focus exact kr)) | ((with_reducible refine awp_region_any mixed ?_ ?_); (focus exact kr)) | ((with_reducible apply awp_condT); (focus exact rfl); (focus exact tt)) | ((with_reducible apply awp_condF); (focus exact rfl); (focus exact ff)) | ((with_reducible apply awp_condD); (focus exact rfl)) | ((with_reducible apply awp_condN); (focus exact rfl)) | ((with_reducible apply awp_cond); (focus exact rfl)) | ((with_reducible refine q_blkX ?_ ?_); (focus exact rfl)) | ((with_reducible refine r_nil (And.intro ?_ ?_)); (focus exact kr)) | (with_reducible refine r_nil ?_) | ((with_reducible apply r_put); (focus (first | exact dp | exact oc rfl (modc_A _ 0 (by decide) (by decide)) | exact oc rfl (modc_A _ 1 (by decide) (by decide)) | exact oc rfl (modc_A _ 2 (by decide) (by decide)) | exact oc rfl (modc_A _ 3 (by decide) (by decide)) | exact oc rfl (times0_A _ _) | exact oc rfl (times1_A _ _ (by omega) (by omega)) | exact oc rfl (times2_A _ _ (by omega) (by omega)) | exact oc rfl (times3_A _ _ (by omega) (by omega)) | exact oc rfl (gadd_A _ _ _ _ (by omega) (by omega) (by omega) (by omega))))) | ((with_reducible apply r_new); (focus exact dn)) | ((with_reducible apply r_app); (focus exact da)) | ((with_reducible apply r_set); (focus (first | exact st8 (new := [_, _, _, _, _, _, _, _]) | exact st8 (new := [_, _]) | exact st8 (new := [_, _, _, _]) | exact ds))) | ((with_reducible apply r_putY); (focus exact rfl); (focus exact rfl); (focus exact tf); (focus (first | exact dp | exact oc rfl (modc_A _ 0 (by decide) (by decide)) | exact oc rfl (modc_A _ 1 (by decide) (by decide)) | exact oc rfl (modc_A _ 2 (by decide) (by decide)) | exact oc rfl (modc_A _ 3 (by decide) (by decide)) | exact oc rfl (times0_A _ _) | exact oc rfl (times1_A _ _ (by omega) (by omega)) | exact oc rfl (times2_A _ _ (by omega) (by omega)) | exact oc rfl (times3_A _ _ (by omega) (by omega)) | exact oc rfl (gadd_A _ _ _ _ (by omega) (by omega) (by omega) (by omega))))) | ((with_reducible apply r_newY); (focus exact rfl); (focus exact rfl); (focus exact tf); (focus exact dn)) | ((with_reducible apply r_noT); (focus exact rfl); (focus exact rfl); (focus exact ff)) | ((with_reducible apply r_noF); (focus exact rfl); (focus exact rfl); (focus exact tt)) | ((with_reducible apply r_splitD); (focus exact rfl); (focus exact rfl)) | ((with_reducible apply r_split); (focus exact rfl); (focus exact rfl))))
      first | exact ⟨1, by omega, by omega, (And.intro rfl (And.intro rfl (And.intro rfl (And.intro rfl trivial)))), (And.intro rfl (And.intro rfl (And.intro rfl trivial)))⟩ | exact ⟨2, by omega, by omega, (And.intro rfl (And.intro rfl (And.intro rfl (And.intro rfl trivial)))), (And.intro rfl (And.intro rfl (And.intro rfl trivial)))⟩ | exact ⟨3, by omega, by omega, (And.intro rfl (And.intro rfl (And.intro rfl (And.intro rfl trivial)))), (And.intro rfl (And.intro rfl (And.intro rfl trivial)))⟩ | exact ⟨4, by omega, by omega, (And.intro rfl (And.intro rfl (And.intro rfl (And.intro rfl trivial)))), (And.intro rfl (And.intro rfl (And.intro rfl trivial)))⟩
  · have hN5 : N = 4 := Nat.le_antisymm hN (by omega)
    subst hN5
    (repeat' (first | (with_reducible first | intro hg | refine awp_seq ?_ | refine q_seq ?_ | refine q_blk ?_ | refine awp_block ?_ | refine awp_skip ?_ | refine awp_ret ?_ | refine awp_exit ?_ | refine q_seqE ?_ | refine q_seqR ?_ | refine q_blkR ?_ | refine q_blkE ?_) | ((with_reducible refine awp_region ?_ ?_); (focus exact kr)) | ((with_reducible refine awp_region_any mixed ?_ ?_); (focus exact kr)) | ((with_reducible apply awp_condT); (focus exact rfl); (focus exact tt)) | ((with_reducible apply awp_condF); (focus exact rfl); (focus exact ff)) | ((with_reducible apply awp_condD); (focus exact rfl)) | ((with_reducible apply awp_condN); (focus exact rfl)) | ((with_reducible apply awp_cond); (focus exact rfl)) | ((with_reducible refine q_blkX ?_ ?_); (focus exact rfl)) | ((with_reducible refine r_nil (And.intro ?_ ?_)); (focus exact kr)) | (with_reducible refine r_nil ?_) | ((with_reducible apply r_put); (focus exact dp)) | ((with_reducible apply r_new); (focus exact dn)) | ((with_reducible apply r_app); (focus exact da)) | ((with_reducible apply r_set); (focus exact ds)) | ((with_reducible apply r_putY); (focus exact rfl); (focus exact rfl); (focus exact tf); (focus exact dp)) | ((with_reducible apply r_newY); (focus exact rfl); (focus exact rfl); (focus exact tf); (focus exact dn)) | ((with_reducible apply r_noT); (focus exact rfl); (focus exact rfl); (focus exact ff)) | ((with_reducible apply r_noF); (focus exact rfl); (focus exact rfl); (focus exact tt)) | ((with_reducible apply r_splitD); (focus exact rfl); (focus exact rfl)) | ((with_reducible apply r_split); (focus exact rfl); (focus exact rfl))))
    ((with_reducible first | apply q_retR | apply q_retN); (focus exact rl))
    rfl

abbrev In8 (a0 a1 a2 a3 a4 a5 a6 a7 : Int) : Prop := inR a0 (-1000000000) 1000000000 = true ∧ inR a1 (-1000000000) 1000000000 = true ∧ inR a2 (-1000000000) 1000000000 = true ∧ inR a3 (-1000000000) 1000000000 = true ∧ inR a4 (-1000000000) 1000000000 = true ∧ inR a5 (-1000000000) 1000000000 = true ∧ inR a6 (-1000000000) 1000000000 = true ∧ inR a7 (-1000000000) 1000000000 = true
abbrev Gd8 (a0 a1 a2 a3 a4 a5 a6 a7 : Int) : Prop := (0 + a1 + a3 + a5 + a7 = 0 ∧ (0 + a0 + a2 + a4 + a6).tmod 4 = 0) ∧ (0 + a1 + a2 + -a5 + -a6 = 0 ∧ (0 + a0 + -a3 + -a4 + a7).tmod 4 = 0) ∧ (0 + a1 + -a3 + a5 + -a7 = 0 ∧ (0 + a0 + -a2 + a4 + -a6).tmod 4 = 0) ∧ (0 + a1 + -a2 + -a5 + a6 = 0 ∧ (0 + a0 + a3 + -a4 + -a7).tmod 4 = 0)
abbrev Qr8 (a0 a1 a2 a3 a4 a5 a6 a7 : Int) : List DV := [I ((0 + a0 + a2 + a4 + a6).tdiv 4), I ((0 + a0 + -a3 + -a4 + a7).tdiv 4), I ((0 + a0 + -a2 + a4 + -a6).tdiv 4), I ((0 + a0 + a3 + -a4 + -a7).tdiv 4)]
theorem in8_bnd (a0 a1 a2 a3 a4 a5 a6 a7 : Int) (h : In8 a0 a1 a2 a3 a4 a5 a6 a7) : a0.natAbs ≤ 1000000000 ∧ a1.natAbs ≤ 1000000000 ∧ a2.natAbs ≤ 1000000000 ∧ a3.natAbs ≤ 1000000000 ∧ a4.natAbs ≤ 1000000000 ∧ a5.natAbs ≤ 1000000000 ∧ a6.natAbs ≤ 1000000000 ∧ a7.natAbs ≤ 1000000000 := by
  obtain ⟨h0, h1, h2, h3, h4, h5, h6, h7⟩ := h
  rw [inR_true] at *
  omega
theorem tmod4 (x : Int) : -9223372036854775808 ≤ x.tmod 4 ∧ x.tmod 4 ≤ 9223372036854775807 := by
  have h1 := Int.tmod_lt_of_pos x (show (0 : Int) < 4 by omega)
  have h2 := Int.lt_tmod_of_pos x (show (0 : Int) < 4 by omega)
  omega
theorem quartersOf_A (a0 a1 a2 a3 a4 a5 a6 a7 : Int) (res : DV) (h3 : ¬ In8 a0 a1 a2 a3 a4 a5 a6 a7 → res = .tuple [.agg [I 0, I 0, I 0, I 0], I 2]) (h2 : In8 a0 a1 a2 a3 a4 a5 a6 a7 → ¬ Gd8 a0 a1 a2 a3 a4 a5 a6 a7 → res = .tuple [.agg [I 0, I 0, I 0, I 0], I 3]) (h1 : In8 a0 a1 a2 a3 a4 a5 a6 a7 → Gd8 a0 a1 a2 a3 a4 a5 a6 a7 → res = .tuple [.agg (Qr8 a0 a1 a2 a3 a4 a5 a6 a7), I 0]) :
    AC Try.prog 73 [.agg [I a0, I a1, I a2, I a3, I a4, I a5, I a6, I a7]] res := by
  by_cases hin : In8 a0 a1 a2 a3 a4 a5 a6 a7
  · obtain ⟨b0, b1, b2, b3, b4, b5, b6, b7⟩ := in8_bnd _ _ _ _ _ _ _ _ hin
    have c0 : -1000000000 ≤ a0 ∧ a0 ≤ 1000000000 := by omega
    clear b0
    have c1 : -1000000000 ≤ a1 ∧ a1 ≤ 1000000000 := by omega
    clear b1
    have c2 : -1000000000 ≤ a2 ∧ a2 ≤ 1000000000 := by omega
    clear b2
    have c3 : -1000000000 ≤ a3 ∧ a3 ≤ 1000000000 := by omega
    clear b3
    have c4 : -1000000000 ≤ a4 ∧ a4 ≤ 1000000000 := by omega
    clear b4
    have c5 : -1000000000 ≤ a5 ∧ a5 ≤ 1000000000 := by omega
    clear b5
    have c6 : -1000000000 ≤ a6 ∧ a6 ≤ 1000000000 := by omega
    clear b6
    have c7 : -1000000000 ≤ a7 ∧ a7 ≤ 1000000000 := by omega
    clear b7
    obtain ⟨x0, x1, x2, x3, x4, x5, x6, x7⟩ := id hin
    have u0 := isSized_A a0 1000000000 ⟨by decide, by decide⟩
    rw [x0] at u0
    have u1 := isSized_A a1 1000000000 ⟨by decide, by decide⟩
    rw [x1] at u1
    have u2 := isSized_A a2 1000000000 ⟨by decide, by decide⟩
    rw [x2] at u2
    have u3 := isSized_A a3 1000000000 ⟨by decide, by decide⟩
    rw [x3] at u3
    have u4 := isSized_A a4 1000000000 ⟨by decide, by decide⟩
    rw [x4] at u4
    have u5 := isSized_A a5 1000000000 ⟨by decide, by decide⟩
    rw [x5] at u5
    have u6 := isSized_A a6 1000000000 ⟨by decide, by decide⟩
    rw [x6] at u6
    have u7 := isSized_A a7 1000000000 ⟨by decide, by decide⟩
    rw [x7] at u7
    have ht := trP_A a0 a1 a2 a3 a4 a5 a6 a7 (by omega) (by omega) (by omega) (by omega) (by omega) (by omega) (by omega) (by omega)
    refine ac_body Try.func73 rfl (Nat.le_of_ble_eq_true (by kernel_rfl)) fun w0 ok => ?_; show AWp _ ⟨w0, ok, _⟩ _ (ARet _ _ _) (entry _)
    (repeat' (first | (with_reducible first | intro hg | refine awp_seq ?_ | refine q_seq ?_ | refine q_blk ?_ | refine awp_block ?_ | refine awp_skip ?_ | refine awp_ret ?_ | refine awp_exit ?_ | refine q_seqE ?_ | refine q_seqR ?_ | refine q_blkR ?_ | refine q_blkE ?_ | refine awp_loopU ?_ | refine awpL_step ?_) | ((with_reducible refine awp_region ?_ ?_); (focus exact kr)) | ((with_reducible refine awp_region_any mixed ?_ ?_); (focus exact kr)) | ((with_reducible apply awp_condT); (focus exact rfl); (focus exact tt)) | ((with_reducible apply awp_condF); (focus exact rfl); (focus exact ff)) | ((with_reducible apply awp_condD); (focus exact rfl)) | ((with_reducible apply awp_condN); (focus exact rfl)) | ((with_reducible apply awp_cond); (focus exact rfl)) | ((with_reducible refine q_blkX ?_ ?_); (focus exact rfl)) | ((with_reducible refine r_nil (And.intro ?_ ?_)); (focus exact kr)) | (with_reducible refine r_nil ?_) | ((with_reducible apply r_put); (focus (first | exact dp | exact oc rfl (u0) | exact oc rfl (u0) | exact oc rfl (u1) | exact oc rfl (u2) | exact oc rfl (u3) | exact oc rfl (u4) | exact oc rfl (u5) | exact oc rfl (u6) | exact oc rfl (u7) | exact oc rfl (ht)))) | ((with_reducible apply r_new); (focus exact dn)) | ((with_reducible apply r_app); (focus exact da)) | ((with_reducible apply r_set); (focus (first | exact st8 (new := [_, _, _, _, _, _, _, _]) | exact st8 (new := [_, _]) | exact st8 (new := [_, _, _, _]) | exact ds))) | ((with_reducible apply r_putY); (focus exact rfl); (focus exact rfl); (focus exact tf); (focus (first | exact dp | exact oc rfl (u0) | exact oc rfl (u0) | exact oc rfl (u1) | exact oc rfl (u2) | exact oc rfl (u3) | exact oc rfl (u4) | exact oc rfl (u5) | exact oc rfl (u6) | exact oc rfl (u7) | exact oc rfl (ht)))) | ((with_reducible apply r_newY); (focus exact rfl); (focus exact rfl); (focus exact tf); (focus exact dn)) | ((with_reducible apply r_noT); (focus exact rfl); (focus exact rfl); (focus exact ff)) | ((with_reducible apply r_noF); (focus exact rfl); (focus exact rfl); (focus exact tt)) | ((with_reducible apply r_splitD); (focus exact rfl); (focus exact rfl)) | ((with_reducible apply r_split); (focus exact rfl); (focus exact rfl))))
    all_goals
      ((with_reducible first | apply q_retR | apply q_retN); (focus exact rl))
      first
        | (rw [h1 hin (by refine ⟨⟨?_, ?_⟩, ⟨?_, ?_⟩, ⟨?_, ?_⟩, ⟨?_, ?_⟩⟩ <;> (first | assumption | (apply Decidable.of_not_not; assumption)))]; rfl)
        | (rw [h2 hin (fun h => by obtain ⟨⟨y0, y1⟩, ⟨y2, y3⟩, ⟨y4, y5⟩, ⟨y6, y7⟩⟩ := h; clear h1 h2 h3 hin; contradiction)]; rfl)
  · refine ac_body Try.func73 rfl (Nat.le_of_ble_eq_true (by kernel_rfl)) fun w0 ok => ?_; show AWp _ ⟨w0, ok, _⟩ _ (ARet _ _ _) (entry _)
    (repeat' (first | (with_reducible first | intro hg | refine awp_seq ?_ | refine q_seq ?_ | refine q_blk ?_ | refine awp_block ?_ | refine awp_skip ?_ | refine awp_ret ?_ | refine awp_exit ?_ | refine q_seqE ?_ | refine q_seqR ?_ | refine q_blkR ?_ | refine q_blkE ?_ | refine awp_loopU ?_ | refine awpL_step ?_) | ((with_reducible refine awp_region ?_ ?_); (focus exact kr)) | ((with_reducible refine awp_region_any mixed ?_ ?_); (focus exact kr)) | ((with_reducible apply awp_condT); (focus exact rfl); (focus exact tt)) | ((with_reducible apply awp_condF); (focus exact rfl); (focus exact ff)) | ((with_reducible apply awp_condD); (focus exact rfl)) | ((with_reducible apply awp_condN); (focus exact rfl)) | ((with_reducible apply awp_cond); (focus exact rfl)) | ((with_reducible refine q_blkX ?_ ?_); (focus exact rfl)) | ((with_reducible refine r_nil (And.intro ?_ ?_)); (focus exact kr)) | (with_reducible refine r_nil ?_) | ((with_reducible apply r_put); (focus (first | exact dp | exact oc rfl (isSized_A _ 1000000000 ⟨by decide, by decide⟩)))) | ((with_reducible apply r_new); (focus exact dn)) | ((with_reducible apply r_app); (focus exact da)) | ((with_reducible apply r_set); (focus exact ds)) | ((with_reducible apply r_putY); (focus exact rfl); (focus exact rfl); (focus exact tf); (focus (first | exact dp | exact oc rfl (isSized_A _ 1000000000 ⟨by decide, by decide⟩)))) | ((with_reducible apply r_newY); (focus exact rfl); (focus exact rfl); (focus exact tf); (focus exact dn)) | ((with_reducible apply r_noT); (focus exact rfl); (focus exact rfl); (focus exact ff)) | ((with_reducible apply r_noF); (focus exact rfl); (focus exact rfl); (focus exact tt)) | ((with_reducible apply r_splitD); (focus exact rfl); (focus exact rfl)) | ((with_reducible apply r_split); (focus exact rfl); (focus exact rfl))))
    all_goals first | (((with_reducible first | apply q_retR | apply q_retN); (focus exact rl)); rw [h3 hin]; rfl) | exact absurd (by refine ⟨?_, ?_, ?_, ?_, ?_, ?_, ?_, ?_⟩ <;> (first | assumption | exact nt_false (by assumption))) hin

end Go.Proofs.Ytemihhkbieplmaa
