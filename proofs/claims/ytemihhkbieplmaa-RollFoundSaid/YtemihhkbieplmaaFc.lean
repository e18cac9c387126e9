/- The law RollFound: what it answers. -/
import Derived.Test.YtemihhkbieplmaaHb
import Derived.Test.YtemihhkbieplmaaFb
import Derived.Test.YtemihhkbieplmaaGa
import Derived.Test.YtemihhkbieplmaaBx
set_option linter.unusedVariables false
set_option linter.unusedSimpArgs false
namespace Go.Proofs.Ytemihhkbieplmaa
open Go.RowKit
set_option maxRecDepth 20000
set_option maxHeartbeats 8000000

theorem gconj_A (a b : Int) (h : b.natAbs ≤ 1000000000000) : AC Try.prog 79 [gV a b] (gV a (-b)) := by
  refine ac_body Try.func79 rfl (Nat.le_of_ble_eq_true (by kernel_rfl)) fun w0 ok => ?_; show AWp _ ⟨w0, ok, _⟩ _ (ARet _ _ _) (entry _)
  (repeat' (first | (with_reducible first | intro hg | refine awp_seq ?_ | refine q_seq ?_ | refine q_blk ?_ | refine awp_block ?_ | refine awp_skip ?_ | refine awp_ret ?_ | refine awp_exit ?_ | refine q_seqE ?_ | refine q_seqR ?_ | refine q_blkR ?_ | refine q_blkE ?_) | ((with_reducible refine awp_region ?_ ?_); (focus exact kr)) | ((with_reducible refine awp_region_any mixed ?_ ?_); (focus exact kr)) | ((with_reducible apply awp_condT); (focus exact rfl); (focus exact tt)) | ((with_reducible apply awp_condF); (focus exact rfl); (focus exact ff)) | ((with_reducible apply awp_condD); (focus exact rfl)) | ((with_reducible apply awp_condN); (focus exact rfl)) | ((with_reducible apply awp_cond); (focus exact rfl)) | ((with_reducible refine q_blkX ?_ ?_); (focus exact rfl)) | ((with_reducible refine r_nil (And.intro ?_ ?_)); (focus exact kr)) | (with_reducible refine r_nil ?_) | ((with_reducible apply r_put); (focus exact dp)) | ((with_reducible apply r_new); (focus exact dn)) | ((with_reducible apply r_app); (focus exact da)) | ((with_reducible apply r_set); (focus exact ds)) | ((with_reducible apply r_putY); (focus exact rfl); (focus exact rfl); (focus exact tf); (focus exact dp)) | ((with_reducible apply r_newY); (focus exact rfl); (focus exact rfl); (focus exact tf); (focus exact dn)) | ((with_reducible apply r_noT); (focus exact rfl); (focus exact rfl); (focus exact ff)) | ((with_reducible apply r_noF); (focus exact rfl); (focus exact rfl); (focus exact tt)) | ((with_reducible apply r_splitD); (focus exact rfl); (focus exact rfl)) | ((with_reducible apply r_split); (focus exact rfl); (focus exact rfl))))
  ((with_reducible first | apply q_retR | apply q_retN); (focus exact rl))
  rfl
/-- The sums of quarters come back. -/
theorem quarters_back (S0 S1 S2 S3 : Int) (h0 : S0.natAbs ≤ 100000000) (h1 : S1.natAbs ≤ 100000000) (h2 : S2.natAbs ≤ 100000000) (h3 : S3.natAbs ≤ 100000000) :
    AC Try.prog 73 [.agg (trM S0 0 S1 0 S2 0 S3 0 4)] (.tuple [.agg [I S0, I S1, I S2, I S3], I 0]) := by
  have hc : (-100000000 ≤ S0 ∧ S0 ≤ 100000000) ∧ (-100000000 ≤ S1 ∧ S1 ≤ 100000000) ∧ (-100000000 ≤ S2 ∧ S2 ≤ 100000000) ∧ (-100000000 ≤ S3 ∧ S3 ≤ 100000000) := by omega
  clear h0 h1 h2 h3
  have hin : In8 (0 + S0 + S1 + S2 + S3) (0 + 0 + 0 + 0 + 0) (0 + S0 + 0 + -S2 + -0) (0 + 0 + -S1 + -0 + S3) (0 + S0 + -S1 + S2 + -S3) (0 + 0 + -0 + 0 + -0) (0 + S0 + -0 + -S2 + 0) (0 + 0 + S1 + -0 + -S3) := by
    refine ⟨?_, ?_, ?_, ?_, ?_, ?_, ?_, ?_⟩ <;> (rw [inR_true]; omega)

  have f0 : 0 + (0 + S0 + S1 + S2 + S3) + (0 + S0 + 0 + -S2 + -0) + (0 + S0 + -S1 + S2 + -S3) + (0 + S0 + -0 + -S2 + 0) = S0 * 4 := by omega
  have g0 : 0 + (0 + 0 + 0 + 0 + 0) + (0 + 0 + -S1 + -0 + S3) + (0 + 0 + -0 + 0 + -0) + (0 + 0 + S1 + -0 + -S3) = 0 := by omega
  have f1 : 0 + (0 + S0 + S1 + S2 + S3) + -(0 + 0 + -S1 + -0 + S3) + -(0 + S0 + -S1 + S2 + -S3) + (0 + 0 + S1 + -0 + -S3) = S1 * 4 := by omega
  have g1 : 0 + (0 + 0 + 0 + 0 + 0) + (0 + S0 + 0 + -S2 + -0) + -(0 + 0 + -0 + 0 + -0) + -(0 + S0 + -0 + -S2 + 0) = 0 := by omega
  have f2 : 0 + (0 + S0 + S1 + S2 + S3) + -(0 + S0 + 0 + -S2 + -0) + (0 + S0 + -S1 + S2 + -S3) + -(0 + S0 + -0 + -S2 + 0) = S2 * 4 := by omega
  have g2 : 0 + (0 + 0 + 0 + 0 + 0) + -(0 + 0 + -S1 + -0 + S3) + (0 + 0 + -0 + 0 + -0) + -(0 + 0 + S1 + -0 + -S3) = 0 := by omega
  have f3 : 0 + (0 + S0 + S1 + S2 + S3) + (0 + 0 + -S1 + -0 + S3) + -(0 + S0 + -S1 + S2 + -S3) + -(0 + 0 + S1 + -0 + -S3) = S3 * 4 := by omega
  have g3 : 0 + (0 + 0 + 0 + 0 + 0) + -(0 + S0 + 0 + -S2 + -0) + -(0 + 0 + -0 + 0 + -0) + (0 + S0 + -0 + -S2 + 0) = 0 := by omega
  have hgd : Gd8 (0 + S0 + S1 + S2 + S3) (0 + 0 + 0 + 0 + 0) (0 + S0 + 0 + -S2 + -0) (0 + 0 + -S1 + -0 + S3) (0 + S0 + -S1 + S2 + -S3) (0 + 0 + -0 + 0 + -0) (0 + S0 + -0 + -S2 + 0) (0 + 0 + S1 + -0 + -S3) := ⟨⟨g0, by rw [f0]; exact Int.mul_tmod_left _ _⟩, ⟨g1, by rw [f1]; exact Int.mul_tmod_left _ _⟩, ⟨g2, by rw [f2]; exact Int.mul_tmod_left _ _⟩, ⟨g3, by rw [f3]; exact Int.mul_tmod_left _ _⟩⟩
  refine quartersOf_A (0 + S0 + S1 + S2 + S3) (0 + 0 + 0 + 0 + 0) (0 + S0 + 0 + -S2 + -0) (0 + 0 + -S1 + -0 + S3) (0 + S0 + -S1 + S2 + -S3) (0 + 0 + -0 + 0 + -0) (0 + S0 + -0 + -S2 + 0) (0 + 0 + S1 + -0 + -S3) _ (fun h => absurd hin h) (fun _ h => absurd hgd h) fun _ _ => ?_
  show DV.tuple [.agg [I S0, I S1, I S2, I S3], I 0] = DV.tuple [.agg [I ((0 + (0 + S0 + S1 + S2 + S3) + (0 + S0 + 0 + -S2 + -0) + (0 + S0 + -S1 + S2 + -S3) + (0 + S0 + -0 + -S2 + 0)).tdiv 4), I ((0 + (0 + S0 + S1 + S2 + S3) + -(0 + 0 + -S1 + -0 + S3) + -(0 + S0 + -S1 + S2 + -S3) + (0 + 0 + S1 + -0 + -S3)).tdiv 4), I ((0 + (0 + S0 + S1 + S2 + S3) + -(0 + S0 + 0 + -S2 + -0) + (0 + S0 + -S1 + S2 + -S3) + -(0 + S0 + -0 + -S2 + 0)).tdiv 4), I ((0 + (0 + S0 + S1 + S2 + S3) + (0 + 0 + -S1 + -0 + S3) + -(0 + S0 + -S1 + S2 + -S3) + -(0 + 0 + S1 + -0 + -S3)).tdiv 4)], I 0]
  rw [f0, f1, f2, f3, Int.mul_tdiv_cancel _ (by decide), Int.mul_tdiv_cancel _ (by decide), Int.mul_tdiv_cancel _ (by decide), Int.mul_tdiv_cancel _ (by decide)]

abbrev stripV (re im st ri L : Int) : DV := .agg [I re, I im, I st, I ri, I L]
theorem mul_bnd2 {k r : Int} (h0 : 0 ≤ k) (h1 : k ≤ 240) (h2 : -1000 ≤ r) (h3 : r ≤ 1000) : -240000 ≤ k * r ∧ k * r ≤ 240000 := by
  have a1 : k * r ≤ k * 1000 := Int.mul_le_mul_of_nonneg_left h3 h0
  have a2 : k * -1000 ≤ k * r := Int.mul_le_mul_of_nonneg_left h2 h0
  omega
theorem rollFound_A (nm : ByteArray) (p o re im st ri L : Int) (hs : nm.size ≤ 140737488355328) (hp : I64 p) : AC Try.prog 15 [drumV nm p o, stripV re im st ri L] (B true) := by
  have aw := awake_A
  have b1 := bDrum_A nm p o hs
  by_cases hd0 : drumErr nm p o = 0
  · obtain ⟨hd, hnm, hp4⟩ := drum_ok hd0
    obtain ⟨d1, d2, d3, d4⟩ := id hd
    by_cases hall : inR re (-10000) 10000 = true ∧ inR im (-10000) 10000 = true ∧ inR st (-100000) 100000 = true ∧ inR ri (-1000) 1000 = true ∧ inR L (p + p / 2) 240 = true
    · obtain ⟨i1, i2, i3, i4, i5⟩ := id hall
      have w1 := bwithin_A re (-10000) 10000
      rw [i1] at w1
      have w2 := bwithin_A im (-10000) 10000
      rw [i2] at w2
      have w3 := bwithin_A st (-100000) 100000
      rw [i3] at w3
      have w4 := bwithin_A ri (-1000) 1000
      rw [i4] at w4
      have w5 := bwithin_A L (p + p / 2) 240
      rw [i5] at w5
      have j1 := inR_true.1 i1
      have j2 := inR_true.1 i2
      have j3 := inR_true.1 i3
      have j4 := inR_true.1 i4
      have j5 := inR_true.1 i5
      clear i1 i2 i3 i4 i5 hall
      obtain ⟨n, rfl⟩ := Int.eq_ofNat_of_zero_le (show 0 ≤ L by omega)
      obtain ⟨m, O, hm, hm16, rfl, rfl, hO⟩ := drum_nat hd hp4
      have hh : (((4 * m : Nat) : Int) / 2).toNat = 2 * m := by omega
      have hwe : waveOfErr nm (4 * m : Nat) (O : Nat) re im n = 0 := by
        unfold waveOfErr ampErr
        rw [hd0, inR_true.2 (by omega), inR_true.2 (by omega), inR_true.2 (show (1 : Int) ≤ n ∧ (n : Int) ≤ 240 by omega)]; rfl
      have c1 := waveOf_ok nm (4 * m : Nat) (O : Nat) re im n hs hp hwe
      have hwb : ∀ k, k < n → -10000 ≤ nth (lst (fun k => wave (4 * m : Nat) (O : Nat) re im k) n) k ∧ nth (lst (fun k => wave (4 * m : Nat) (O : Nat) re im k) n) k ≤ 10000 := fun k hk => by
        rw [lst_nth _ hk]; exact wave_bnd2 j1 j2
      have hwl : (lst (fun k => wave (4 * m : Nat) (O : Nat) re im k) n).length = n := lst_length _ _
      generalize hW : lst (fun k => wave (4 * m : Nat) (O : Nat) re im k) n = W at *
      have hWB : Bnd 1000000 W := fun x hx => by
        rw [← hW] at hx
        obtain ⟨k, hk, rfl⟩ := List.mem_map.1 hx
        have := wave_bnd2 (p := (4 * m : Nat)) (o := (O : Nat)) (k := (k : Int)) j1 j2
        omega
      generalize hX : lst (fun k => nth W k + st + (k : Int) * ri) n = X
      have hXl : X.length = n := by rw [← hX]; exact lst_length _ _
      have hXb : ∀ x ∈ X, -350000 ≤ x ∧ x ≤ 350000 := fun x hx => by
        rw [← hX] at hx
        obtain ⟨k, hk, rfl⟩ := List.mem_map.1 hx
        have hkn : k < n := List.mem_range.1 hk
        have a1 := hwb k hkn
        have a2 := mul_bnd2 (k := (k : Int)) (r := ri) (by omega) (by omega) (by omega) (by omega)
        show -350000 ≤ nth W k + st + (k : Int) * ri ∧ nth W k + st + (k : Int) * ri ≤ 350000
        omega
      have hXB : Bnd 1000000 X := fun x hx => by have := hXb x hx; omega
      have recW : recErr W = 0 := rec_good hWB (by omega) (by omega)
      have recX : recErr X = 0 := rec_good hXB (by omega) (by omega)
      have tW : turnErr W nm (4 * m : Nat) (O : Nat) = 0 := by
        unfold turnErr bothErr; rw [recW, hd0, decide_eq_true (by omega)]; rfl
      have tX : turnErr X nm (4 * m : Nat) (O : Nat) = 0 := by
        unfold turnErr bothErr; rw [recX, hd0, decide_eq_true (by omega)]; rfl
      have sX : steadyErr X nm (4 * m : Nat) (O : Nat) = 0 := by
        unfold steadyErr bothErr; rw [recX, hd0, decide_eq_true (by omega)]; rfl
      have fa := found_amp (O := O) (n := n) (re := re) (im := im) hm (nth W) fun k hk => by rw [← hW, lst_nth _ hk]
      rw [← hwl, lst_of] at fa
      have fs := found_steady (O := O) (n := n) (re := re) (im := im) (st := st) (ri := ri) hm (by omega) (fun k => nth W k + st + (k : Int) * ri) fun k hk => by rw [← hW, lst_nth _ hk]
      rw [hX] at fs
      have cW := cnt_pos (n := W.length) (p := ((4 * m : Nat) : Int)) (by omega) (by omega)
      have hdl := dif_len X (2 * m)
      have cD := cnt_pos (n := (dif X (2 * m)).length) (p := ((4 * m : Nat) : Int)) (by omega) (by omega)
      have c2 := amplitudeOf_ok W nm (4 * m : Nat) (O : Nat) hs hp tW
      rw [fa.1, fa.2, low_mul (by omega), low_mul (by omega)] at c2
      have c3 := steadyOf_ok X nm (4 * m : Nat) (O : Nat) hs hp sX
      rw [hh, fs.1, fs.2, low_mul (by omega), low_mul (by omega)] at c3
      have c4 := harmonicsOf_ok X nm (4 * m : Nat) (O : Nat) hs hp tX
      have c5 := sumOf_ok X nm (4 * m : Nat) (O : Nat) hs hp tX
      have e1 := bwhole_A nm (4 * m : Nat) (O : Nat) X.length (by omega) (by omega) (by omega)
      have e2 := bsums0_A nm (4 * m : Nat) (O : Nat) X (by omega) hd (hXB.mono (by omega))
      have hq (q : Int) : (rsum (4 * m : Nat) (O : Nat) X 0 q).natAbs ≤ 100000000 := by
        have hb := sq_bnd (B := 350000) (by omega) (4 * m : Nat) (O : Nat) q (X.take (cnt X.length (4 * m : Nat))) 0 fun x hx => hXb x (List.mem_of_mem_take hx)
        have hl : (X.take (cnt X.length (4 * m : Nat))).length ≤ X.length := by rw [List.length_take]; exact Nat.min_le_right _ _
        unfold rsum
        omega
      have h0 := hq 0
      have h1 := hq 1
      have h2 := hq 2
      have h3 := hq 3
      have c6 := quarters_back _ _ _ _ h0 h1 h2 h3
      have e2' : AC Try.prog 76 [isl X, drumV nm (4 * m : Nat) (O : Nat), I 0, I (cnt X.length (4 * m : Nat) : Nat)] (.agg [I (rsum (4 * m : Nat) (O : Nat) X 0 0), I (rsum (4 * m : Nat) (O : Nat) X 0 1), I (rsum (4 * m : Nat) (O : Nat) X 0 2), I (rsum (4 * m : Nat) (O : Nat) X 0 3)]) := e2
      clear e2
      unfold reOf imOf at c5
      generalize rsum (4 * m : Nat) (O : Nat) X 0 0 = S0 at *
      generalize rsum (4 * m : Nat) (O : Nat) X 0 1 = S1 at *
      generalize rsum (4 * m : Nat) (O : Nat) X 0 2 = S2 at *
      generalize rsum (4 * m : Nat) (O : Nat) X 0 3 = S3 at *
      rw [show S0 - S2 = 0 + S0 + 0 + -S2 + -0 by omega, show S3 - S1 = 0 + 0 + -S1 + -0 + S3 by omega] at c5
      have c7 := gconj_A (0 + S0 + 0 + -S2 + -0) (0 + 0 + -S1 + -0 + S3) (by omega)
      rw [show -(0 + 0 + -S1 + -0 + S3) = 0 + 0 + S1 + -0 + -S3 by omega] at c7
      have c7' : AC Try.prog 79 [gV (0 + S0 + 0 + -S2 + -0) (0 + 0 + -S1 + -0 + S3)] (gV (0 + S0 + -0 + -S2 + 0) (0 + 0 + S1 + -0 + -S3)) := by
        rwa [show (0 + S0 + -0 + -S2 + 0) = 0 + S0 + 0 + -S2 + -0 by omega]
      clear c7 fa fs hq hWB recW recX tW tX sX hwe hdl
      have cpW := copyInts_A W (by omega)
      have cpX := copyInts_A X (by omega)
      refine ac_body Try.func15 rfl (Nat.le_of_ble_eq_true (by kernel_rfl)) fun w0 ok => ?_; show AWp _ ⟨w0, ok, _⟩ _ (ARet _ _ _) (entry _)
      (repeat' (first | (with_reducible first | intro hg | refine awp_seq ?_ | refine q_seq ?_ | refine q_blk ?_ | refine awp_block ?_ | refine awp_skip ?_ | refine awp_ret ?_ | refine awp_exit ?_ | refine q_seqE ?_ | refine q_seqR ?_ | refine q_blkR ?_ | refine q_blkE ?_) | ((with_reducible refine awp_region ?_ ?_); (focus exact kr)) | ((with_reducible refine awp_region_any mixed ?_ ?_); (focus exact kr)) | ((with_reducible apply awp_condT); (focus exact rfl); (focus exact tt)) | ((with_reducible apply awp_condF); (focus exact rfl); (focus exact ff)) | ((with_reducible apply awp_condD); (focus exact rfl)) | ((with_reducible apply awp_condN); (focus exact rfl)) | ((with_reducible apply awp_cond); (focus exact rfl)) | ((with_reducible refine q_blkX ?_ ?_); (focus exact rfl)) | ((with_reducible refine r_nil (And.intro ?_ ?_)); (focus exact kr)) | (with_reducible refine r_nil ?_) | ((with_reducible apply r_put); (focus (first | exact dp | exact oc rfl (aw) | exact oc rfl (b1) | exact oc rfl (w1) | exact oc rfl (w2) | exact oc rfl (w3) | exact oc rfl (w4) | exact oc rfl (w5) | exact oc rfl (c1)))) | ((with_reducible apply r_new); (focus exact dn)) | ((with_reducible apply r_app); (focus exact da)) | ((with_reducible apply r_set); (focus exact ds)) | ((with_reducible apply r_putY); (focus exact rfl); (focus exact rfl); (focus exact tf); (focus (first | exact dp | exact oc rfl (aw) | exact oc rfl (b1) | exact oc rfl (w1) | exact oc rfl (w2) | exact oc rfl (w3) | exact oc rfl (w4) | exact oc rfl (w5) | exact oc rfl (c1)))) | ((with_reducible apply r_newY); (focus exact rfl); (focus exact rfl); (focus exact tf); (focus exact dn)) | ((with_reducible apply r_noT); (focus exact rfl); (focus exact rfl); (focus exact ff)) | ((with_reducible apply r_noF); (focus exact rfl); (focus exact rfl); (focus exact tt)) | ((with_reducible apply r_splitD); (focus exact rfl); (focus exact rfl)) | ((with_reducible apply r_split); (focus exact rfl); (focus exact rfl))))
      refine awp_loopL (α := Nat) (fun k => [(2, .ptr 2 0), (3, .ptr 3 0), (4, .d (B false)), (5, .ptr 5 0), (6, .d (isl W)), (8, ownS 107 k), (9, .d (I (k : Nat)))])
        (fun k => (2, ⟨43, [S nm, I (4 * m : Nat), I (O : Nat)]⟩) :: (3, ⟨103, [I re, I im, I st, I ri, I (n : Nat)]⟩) :: (5, ⟨45, [I re, I im]⟩) :: ownM 107 3 (ivs (lst (fun k => nth W k + st + (k : Int) * ri) k)) k) (fun k => k ≤ n) (fun k => n - k) 0 (Nat.zero_le _) (And.intro rfl (And.intro rfl (And.intro rfl (And.intro rfl (And.intro rfl (And.intro rfl (And.intro rfl trivial))))))) (And.intro rfl (And.intro rfl (And.intro rfl trivial))) fun k hk => ?_
      by_cases hlt : k < n
      · have v1 := hwb k hlt
        have v2 := mul_bnd2 (k := (k : Int)) (r := ri) (by omega) (by omega) (by omega) (by omega)
        have w6 := bwithin_A (nth W k) (-10000) 10000
        rw [inR_true.2 v1] at w6
        rcases k with _ | k
        · (repeat' (first | (with_reducible first | intro hg | refine awp_seq ?_ | refine q_seq ?_ | refine q_blk ?_ | refine awp_block ?_ | refine awp_skip ?_ | refine awp_ret ?_ | refine awp_exit ?_ | refine q_seqE ?_ | refine q_seqR ?_ | refine q_blkR ?_ | refine q_blkE ?_) | ((with_reducible refine awp_region ?_ ?_); (focus exact kr)) | ((with_reducible refine awp_region_any mixed ?_ ?_); (focus exact kr)) | ((with_reducible apply awp_condT); (focus exact rfl); (focus exact tt)) | ((with_reducible apply awp_condF); (focus exact rfl); (focus exact ff)) | ((with_reducible apply awp_condD); (focus exact rfl)) | ((with_reducible apply awp_condN); (focus exact rfl)) | ((with_reducible apply awp_cond); (focus exact rfl)) | ((with_reducible refine q_blkX ?_ ?_); (focus exact rfl)) | ((with_reducible refine r_nil (And.intro ?_ ?_)); (focus exact kr)) | (with_reducible refine r_nil ?_) | ((with_reducible apply r_put); (focus (first | exact dp | exact oc rfl (w6)))) | ((with_reducible apply r_new); (focus exact dn)) | ((with_reducible apply r_app); (focus exact da)) | ((with_reducible apply r_set); (focus exact ds)) | ((with_reducible apply r_putY); (focus exact rfl); (focus exact rfl); (focus exact tf); (focus (first | exact dp | exact oc rfl (w6)))) | ((with_reducible apply r_newY); (focus exact rfl); (focus exact rfl); (focus exact tf); (focus exact dn)) | ((with_reducible apply r_noT); (focus exact rfl); (focus exact rfl); (focus exact ff)) | ((with_reducible apply r_noF); (focus exact rfl); (focus exact rfl); (focus exact tt)) | ((with_reducible apply r_splitD); (focus exact rfl); (focus exact rfl)) | ((with_reducible apply r_split); (focus exact rfl); (focus exact rfl))))
          refine ⟨1, by omega, by omega, (And.intro rfl (And.intro rfl (And.intro rfl (And.intro rfl (And.intro rfl (And.intro rfl (And.intro rfl trivial))))))), (And.intro rfl (And.intro rfl (And.intro rfl (And.intro (blk_one _ _ rfl) trivial))))⟩
        · (repeat' (first | (with_reducible first | intro hg | refine awp_seq ?_ | refine q_seq ?_ | refine q_blk ?_ | refine awp_block ?_ | refine awp_skip ?_ | refine awp_ret ?_ | refine awp_exit ?_ | refine q_seqE ?_ | refine q_seqR ?_ | refine q_blkR ?_ | refine q_blkE ?_) | ((with_reducible refine awp_region ?_ ?_); (focus exact kr)) | ((with_reducible refine awp_region_any mixed ?_ ?_); (focus exact kr)) | ((with_reducible apply awp_condT); (focus exact rfl); (focus exact tt)) | ((with_reducible apply awp_condF); (focus exact rfl); (focus exact ff)) | ((with_reducible apply awp_condD); (focus exact rfl)) | ((with_reducible apply awp_condN); (focus exact rfl)) | ((with_reducible apply awp_cond); (focus exact rfl)) | ((with_reducible refine q_blkX ?_ ?_); (focus exact rfl)) | ((with_reducible refine r_nil (And.intro ?_ ?_)); (focus exact kr)) | (with_reducible refine r_nil ?_) | ((with_reducible apply r_put); (focus (first | exact dp | exact oc rfl (w6)))) | ((with_reducible apply r_new); (focus exact dn)) | ((with_reducible apply r_app); (focus exact da)) | ((with_reducible apply r_set); (focus exact ds)) | ((with_reducible apply r_putY); (focus exact rfl); (focus exact rfl); (focus exact tf); (focus (first | exact dp | exact oc rfl (w6)))) | ((with_reducible apply r_newY); (focus exact rfl); (focus exact rfl); (focus exact tf); (focus exact dn)) | ((with_reducible apply r_noT); (focus exact rfl); (focus exact rfl); (focus exact ff)) | ((with_reducible apply r_noF); (focus exact rfl); (focus exact rfl); (focus exact tt)) | ((with_reducible apply r_splitD); (focus exact rfl); (focus exact rfl)) | ((with_reducible apply r_split); (focus exact rfl); (focus exact rfl))))
          refine ⟨k + 2, by omega, by omega, (And.intro rfl (And.intro rfl (And.intro rfl (And.intro rfl (And.intro rfl (And.intro rfl (And.intro rfl trivial))))))), (And.intro rfl (And.intro rfl (And.intro rfl (And.intro (blk_snoc _ _ _ rfl) trivial))))⟩
      · have hk2 : k = n := Nat.le_antisymm hk (by omega)
        subst hk2
        refine awp_own 8 107 (t := 3) (fun k => nth W k + st + (k : Int) * ri) rfl (fun j hj => by rw [hj]; rfl) ?_
        rw [hX]
        (repeat' (first | (with_reducible first | intro hg | refine awp_seq ?_ | refine q_seq ?_ | refine q_blk ?_ | refine awp_block ?_ | refine awp_skip ?_ | refine awp_ret ?_ | refine awp_exit ?_ | refine q_seqE ?_ | refine q_seqR ?_ | refine q_blkR ?_ | refine q_blkE ?_) | ((with_reducible refine awp_region ?_ ?_); (focus exact kr)) | ((with_reducible refine awp_region_any mixed ?_ ?_); (focus exact kr)) | ((with_reducible apply awp_condT); (focus exact rfl); (focus exact tt)) | ((with_reducible apply awp_condF); (focus exact rfl); (focus exact ff)) | ((with_reducible apply awp_condD); (focus exact rfl)) | ((with_reducible apply awp_condN); (focus exact rfl)) | ((with_reducible apply awp_cond); (focus exact rfl)) | ((with_reducible refine q_blkX ?_ ?_); (focus exact rfl)) | ((with_reducible refine r_nil (And.intro ?_ ?_)); (focus exact kr)) | (with_reducible refine r_nil ?_) | ((with_reducible apply r_put); (focus (first | exact o_eqlS rfl rfl rfl rfl | exact o_neqS rfl rfl rfl rfl | exact dp | exact oc rfl (whole_A _) | exact oc rfl (cpW) | exact oc rfl (cpX) | exact oc rfl (c2) | exact oc rfl (c3) | exact oc rfl (c4) | exact oc rfl (c5) | exact oc rfl (c6) | exact oc rfl (c7') | exact oc rfl (e1) | exact oc rfl (e2')))) | ((with_reducible apply r_new); (focus exact dn)) | ((with_reducible apply r_app); (focus exact da)) | ((with_reducible apply r_set); (focus exact ds)) | ((with_reducible apply r_putY); (focus exact rfl); (focus exact rfl); (focus exact tf); (focus (first | exact o_eqlS rfl rfl rfl rfl | exact o_neqS rfl rfl rfl rfl | exact dp | exact oc rfl (whole_A _) | exact oc rfl (cpW) | exact oc rfl (cpX) | exact oc rfl (c2) | exact oc rfl (c3) | exact oc rfl (c4) | exact oc rfl (c5) | exact oc rfl (c6) | exact oc rfl (c7') | exact oc rfl (e1) | exact oc rfl (e2')))) | ((with_reducible apply r_newY); (focus exact rfl); (focus exact rfl); (focus exact tf); (focus exact dn)) | ((with_reducible apply r_noT); (focus exact rfl); (focus exact rfl); (focus exact ff)) | ((with_reducible apply r_noF); (focus exact rfl); (focus exact rfl); (focus exact tt)) | ((with_reducible apply r_splitD); (focus exact rfl); (focus exact rfl)) | ((with_reducible apply r_split); (focus exact rfl); (focus exact rfl))))
        ((with_reducible first | apply q_retR | apply q_retN); (focus exact rl))
        rfl
    · refine ac_body Try.func15 rfl (Nat.le_of_ble_eq_true (by kernel_rfl)) fun w0 ok => ?_; show AWp _ ⟨w0, ok, _⟩ _ (ARet _ _ _) (entry _)
      (repeat' (first | (with_reducible first | intro hg | refine awp_seq ?_ | refine q_seq ?_ | refine q_blk ?_ | refine awp_block ?_ | refine awp_skip ?_ | refine awp_ret ?_ | refine awp_exit ?_ | refine q_seqE ?_ | refine q_seqR ?_ | refine q_blkR ?_ | refine q_blkE ?_) | ((with_reducible refine awp_region ?_ ?_); (focus exact kr)) | ((with_reducible refine awp_region_any mixed ?_ ?_); (focus exact kr)) | ((with_reducible apply awp_condT); (focus exact rfl); (focus exact tt)) | ((with_reducible apply awp_condF); (focus exact rfl); (focus exact ff)) | ((with_reducible apply awp_condD); (focus exact rfl)) | ((with_reducible apply awp_condN); (focus exact rfl)) | ((with_reducible apply awp_cond); (focus exact rfl)) | ((with_reducible refine q_blkX ?_ ?_); (focus exact rfl)) | ((with_reducible refine r_nil (And.intro ?_ ?_)); (focus exact kr)) | (with_reducible refine r_nil ?_) | ((with_reducible apply r_put); (focus (first | exact dp | exact oc rfl (aw) | exact oc rfl (b1) | exact oc rfl (bwithin_A _ (-10000) 10000) | exact oc rfl (bwithin_A _ (-100000) 100000) | exact oc rfl (bwithin_A _ (-1000) 1000) | exact oc rfl (bwithin_A _ (p + p / 2) 240)))) | ((with_reducible apply r_new); (focus exact dn)) | ((with_reducible apply r_app); (focus exact da)) | ((with_reducible apply r_set); (focus exact ds)) | ((with_reducible apply r_putY); (focus exact rfl); (focus exact rfl); (focus exact tf); (focus (first | exact dp | exact oc rfl (aw) | exact oc rfl (b1) | exact oc rfl (bwithin_A _ (-10000) 10000) | exact oc rfl (bwithin_A _ (-100000) 100000) | exact oc rfl (bwithin_A _ (-1000) 1000) | exact oc rfl (bwithin_A _ (p + p / 2) 240)))) | ((with_reducible apply r_newY); (focus exact rfl); (focus exact rfl); (focus exact tf); (focus exact dn)) | ((with_reducible apply r_noT); (focus exact rfl); (focus exact rfl); (focus exact ff)) | ((with_reducible apply r_noF); (focus exact rfl); (focus exact rfl); (focus exact tt)) | ((with_reducible apply r_splitD); (focus exact rfl); (focus exact rfl)) | ((with_reducible apply r_split); (focus exact rfl); (focus exact rfl))))
      all_goals first | (((with_reducible first | apply q_retR | apply q_retN); (focus exact rl)); rfl) | exact absurd (by refine ⟨?_, ?_, ?_, ?_, ?_⟩ <;> (first | assumption | exact nt_false (by assumption))) hall
  · refine ac_body Try.func15 rfl (Nat.le_of_ble_eq_true (by kernel_rfl)) fun w0 ok => ?_; show AWp _ ⟨w0, ok, _⟩ _ (ARet _ _ _) (entry _)
    (repeat' (first | (with_reducible first | intro hg | refine awp_seq ?_ | refine q_seq ?_ | refine q_blk ?_ | refine awp_block ?_ | refine awp_skip ?_ | refine awp_ret ?_ | refine awp_exit ?_ | refine q_seqE ?_ | refine q_seqR ?_ | refine q_blkR ?_ | refine q_blkE ?_) | ((with_reducible refine awp_region ?_ ?_); (focus exact kr)) | ((with_reducible refine awp_region_any mixed ?_ ?_); (focus exact kr)) | ((with_reducible apply awp_condT); (focus exact rfl); (focus exact tt)) | ((with_reducible apply awp_condF); (focus exact rfl); (focus exact ff)) | ((with_reducible apply awp_condD); (focus exact rfl)) | ((with_reducible apply awp_condN); (focus exact rfl)) | ((with_reducible apply awp_cond); (focus exact rfl)) | ((with_reducible refine q_blkX ?_ ?_); (focus exact rfl)) | ((with_reducible refine r_nil (And.intro ?_ ?_)); (focus exact kr)) | (with_reducible refine r_nil ?_) | ((with_reducible apply r_put); (focus (first | exact dp | exact oc rfl (aw) | exact oc rfl (b1)))) | ((with_reducible apply r_new); (focus exact dn)) | ((with_reducible apply r_app); (focus exact da)) | ((with_reducible apply r_set); (focus exact ds)) | ((with_reducible apply r_putY); (focus exact rfl); (focus exact rfl); (focus exact tf); (focus (first | exact dp | exact oc rfl (aw) | exact oc rfl (b1)))) | ((with_reducible apply r_newY); (focus exact rfl); (focus exact rfl); (focus exact tf); (focus exact dn)) | ((with_reducible apply r_noT); (focus exact rfl); (focus exact rfl); (focus exact ff)) | ((with_reducible apply r_noF); (focus exact rfl); (focus exact rfl); (focus exact tt)) | ((with_reducible apply r_splitD); (focus exact rfl); (focus exact rfl)) | ((with_reducible apply r_split); (focus exact rfl); (focus exact rfl))))
    ((with_reducible first | apply q_retR | apply q_retN); (focus exact rl))
    rfl

end Go.Proofs.Ytemihhkbieplmaa
