/- The gain bound, walked. -/
import Derived.Test.YtiabcffcbhlbiaaGreatSo
import Derived.Test.YtiabcffcbhlbiaaGreatSx
set_option linter.unusedVariables false
set_option linter.unusedSimpArgs false
namespace Go.Proofs.YtiabcffcbhlbiaaGreat
open Go.RowKit
set_option maxRecDepth 20000
set_option maxHeartbeats 8000000

def gnE (c : List Rg) (den s : Int) (w : List Int) : Int := fst0 [exE c den, prE c den s w]
theorem gainBound_err (c : List Rg) (den s : Int) (w : List Int) (hm : c.length ≤ 140737488355328) (hw : w.length ≤ 140737488355328) (h : gnE c den s w ≠ 0) : AC Tryz.prog 36 [loV c den, .agg (prI s w)] (.tuple [F2 (0, 0), I (gnE c den s w)]) := by
  have w1 := exactErr_A c den hm
  have w2 := proofErr_A c den s w hm hw
  have w3 := first2_A (exE c den) (prE c den s w)
  have e : gnE c den s w = fst0 [exE c den, prE c den s w] := rfl
  rw [← e] at w3
  clear e
  generalize gnE c den s w = u at *
  refine ac_body Tryz.func36 rfl (by kernel_rfl) fun w0 ok => ?_; show AWp _ (ctx0 w0 ok _) _ (ARet _ _ _) (entry _)
  exact zF
/-- What GainBound says of a valid proof for an exact loop. -/
def gnR (c : List Rg) (den : Int) (s : Nat) (w : List Int) : Fr × Int := bif decide (nrm c den s w < 1) then frQ (gnB den (losL c) w c.length s (nrm c den s w)) else ((0, 0), 19)
theorem gainBound_no (c : List Rg) (den : Int) (h : loE c den = 0) (hx : exB c = true) (s : Nat) (w : List Int) (hp : PrfOk c.length s w) (hn : decide (nrm c den s w < 1) = false) : AC Tryz.prog 36 [loV c den, .agg (prfC s w)] (.tuple [F2 (0, 0), I 19]) := by
  have hL := loE_ok h
  have w1 := exactErr_A c den (by have := hL.l3; omega)
  rw [exE_eq h, hx] at w1
  have w2 := proofErr_ok c den h s w hp
  have w3 := norm_q c den hL s w hp
  have w4 := settles_q (nrm c den s w)
  rw [hn] at w4
  generalize qF (nrm c den s w) = x at *
  refine ac_body Tryz.func36 rfl (by kernel_rfl) fun w0 ok => ?_; show AWp _ (ctx0 w0 ok _) _ (ARet _ _ _) (entry _)
  (repeat' (first | (with_reducible first | intro hg | refine mv (by constructor) ?_) | ((with_reducible first | refine zR ?_ ?_ | refine zW mixed ?_ ?_); exact kr) | ((with_reducible apply zK); exact rfl; exact tf) | ((with_reducible apply zCD); exact rfl) | ((with_reducible apply zCN); exact rfl) | ((with_reducible apply zC); exact rfl) | ((with_reducible refine zX ?_ ?_); exact rfl) | ((with_reducible refine zE (And.intro ?_ ?_)); exact kr) | (with_reducible refine zE ?_) | ((with_reducible apply zP); (first | exact dp | exact oc rfl (w1) | exact oc rfl (w2) | exact oc rfl (w3) | exact oc rfl (w4) | exact oc rfl (first2_A _ _))) | ((with_reducible apply zN); exact dn) | ((with_reducible apply zA); exact da) | ((with_reducible apply zS); exact ds) | ((with_reducible apply zY); exact rfl; exact rfl; exact tf) | ((with_reducible apply zG); exact rfl; exact rfl; exact tf) | ((with_reducible apply zU); exact rfl; exact rfl) | ((with_reducible apply zD); exact rfl; exact rfl) | ((with_reducible apply zB); exact rfl; exact rfl)))
  ((with_reducible first | apply q_retR | apply q_retN); exact rl)
  rfl
theorem gainBound_yes (c : List Rg) (den : Int) (h : loE c den = 0) (hx : exB c = true) (m : Nat) (w : List Int) (hp : PrfOk c.length (m + 1) w) (hn : nrm c den (m + 1) w < 1) : AC Tryz.prog 36 [loV c den, .agg (prfC (m + 1) w)] (.tuple [F2 (frQ (gnB den (losL c) w c.length (m + 1) (nrm c den (m + 1) w))).1, I (frQ (gnB den (losL c) w c.length (m + 1) (nrm c den (m + 1) w))).2]) := by
  have hL := loE_ok h
  have hl3 := hL.l3
  have hl1 := hL.l1
  have hm6 := hp.s6
  have hwl := hp.l
  have w1 := exactErr_A c den (by omega)
  rw [exE_eq h, hx] at w1
  have w2 := proofErr_ok c den h (m + 1) w hp
  have w3 := norm_q c den hL (m + 1) w hp
  have w4 := settles_q (nrm c den (m + 1) w)
  rw [decide_eq_true hn] at w4
  have w5 := raised_A den hL.d m (by omega)
  rw [show ((m : Nat) : Int) = ((m + 1 : Nat) : Int) - 1 by omega] at w5
  have hlb := losL_bnd hL
  have hll : (losL c).length ≤ 3 := by rw [losL_len]; exact hl3
  have hw : ∀ i, i < c.length → 1 ≤ nth w i ∧ nth w i ≤ 10 := fun i hi => hp.w _ (nth_mem (by omega))
  have hnq := fun t ht => nmb_eq (m := m) (t := t) hL.d hll hlb ht
  have hnb : ∀ t, t ≤ m → (nmb den (losL c) m t).natAbs ≤ 30 ^ m := fun t ht => (hnq t ht).2
  have hns := fun t ht => nmS_end (m := m) (t := t) hL.d hll hlb ht
  have hnS := fun t ht => nmS_bnd (m := m) (t := t) hL.d hll hlb ht
  have hmst := fun t ht => nmb_nat (m := m) (t := t) hL.d hll hlb w hw ht
  have hsmI := fun t ht => smI_bnd (m := m) (n := c.length) hL.d hll hlb hw t ht
  have h30 : 30 ^ m ≤ 24300000 := Nat.le_trans (Nat.pow_le_pow_right (by decide) (show m ≤ 5 by omega)) (by decide)
  have hdq := pow_den6 hL.d (s := m) (by omega)
  have hlow := gnS_low (m := m) (n := c.length) (w := w) hL.d hll hlb hw
  obtain ⟨hinv, hinv0⟩ := inv_low hn
  obtain ⟨nb1, nb2⟩ := nrm_bnd hL hp
  have nb3 := den_pos (nrm c den (m + 1) w)
  have nn0 : 0 ≤ (nrm c den (m + 1) w).num := Rat.num_nonneg.2 (nrmR_nonneg _)
  have hsB := hsmI (m + 1) (Nat.le_refl _)
  have hk6 : (m + 1) * (30 ^ m * 2520) ≤ 6 * (30 ^ m * 2520) := Nat.mul_le_mul_right _ (by omega)
  have hw0 := hw 0 hl1
  have hpr0 : 0 ≤ nth w 0 * smI den (losL c) w m c.length (m + 1) ∧ nth w 0 * smI den (losL c) w m c.length (m + 1) ≤ 10 * 400000000000 := ⟨Int.mul_nonneg (by omega) hsB.1, Int.mul_le_mul hw0.2 (by omega) hsB.1 (by decide)⟩
  have z1 := lowest_A (nth w 0 * smI den (losL c) w m c.length (m + 1)) (den ^ m * 2520) ⟨by omega, by omega⟩ (by omega) (by omega)
  have z2 := lowest_A ((nrm c den (m + 1) w).den : Int) (((nrm c den (m + 1) w).den : Int) - (nrm c den (m + 1) w).num) ⟨by omega, by omega⟩ hinv0 (by omega)
  have lb1 := low_size (n := nth w 0 * smI den (losL c) w m c.length (m + 1)) (show 0 < den ^ m * 2520 by omega)
  have lb2 := low_size (n := ((nrm c den (m + 1) w).den : Int)) hinv0
  rw [hlow] at z1 lb1
  rw [hinv] at z2 lb2
  have g0 : 0 ≤ gnS den (losL c) w c.length (m + 1) := Rat.mul_nonneg (by exact_mod_cast (show (0 : Int) ≤ nth w 0 by omega)) (sumQ_nonneg _ fun t _ => wtR_nonneg _ _ _)
  have i0 : 0 ≤ 1 / (1 - nrm c den (m + 1) w) := by
    have : 0 < 1 - nrm c den (m + 1) w := by grind
    rw [Rat.div_def, Rat.one_mul]
    exact Rat.le_of_lt (Rat.inv_pos.2 this)
  simp only [show ∀ r : Rat, (qF r).1 = r.num from fun _ => rfl, show ∀ r : Rat, (qF r).2 = (r.den : Int) from fun _ => rfl] at lb1 lb2
  have z3 := product_q (gnS den (losL c) w c.length (m + 1)) (1 / (1 - nrm c den (m + 1) w)) g0 i0 (by omega) (by omega) (by omega) (by omega)
  rw [gnB_mul] at z3
  have hb1 : -9223372036854775808 ≤ nth w 0 * smI den (losL c) w m c.length (m + 1) ∧ nth w 0 * smI den (losL c) w m c.length (m + 1) ≤ 9223372036854775807 := ⟨by omega, by omega⟩
  generalize frQ (gnB den (losL c) w c.length (m + 1) (nrm c den (m + 1) w)) = R at *
  clear hnq hlow hinv lb1 lb2 g0 i0 hpr0 hsB hk6 hinv0 hx h hn hp
  generalize nrm c den (m + 1) w = N at *
  generalize hdqe : den ^ m = dq at *
  generalize 30 ^ m = K at *
  have hm0 : nmb den (losL c) m 0 = dq := by
    unfold nmb
    have e : rsp den (losL c) 0 = 1 := rfl
    rw [e, Rat.one_mul, hdqe]; rfl
  have hd := hL.d
  refine ac_body Tryz.func36 rfl (by kernel_rfl) fun w0 ok => ?_; show AWp _ (ctx0 w0 ok _) _ (ARet _ _ _) (entry _)
  (repeat' (first | (with_reducible first | intro hg | refine mv (by constructor) ?_) | ((with_reducible first | refine zR ?_ ?_ | refine zW mixed ?_ ?_); exact kr) | ((with_reducible apply zK); exact rfl; exact tf) | ((with_reducible apply zCD); exact rfl) | ((with_reducible apply zCN); exact rfl) | ((with_reducible apply zC); exact rfl) | ((with_reducible refine zX ?_ ?_); exact rfl) | ((with_reducible refine zE (And.intro ?_ ?_)); exact kr) | (with_reducible refine zE ?_) | ((with_reducible apply zP); (first | exact dp | exact oc rfl (w1) | exact oc rfl (w2) | exact oc rfl (w3) | exact oc rfl (w4) | exact oc rfl (w5) | exact oc rfl (first2_A _ _))) | ((with_reducible apply zN); exact dn) | ((with_reducible apply zA); exact da) | ((with_reducible apply zS); exact ds) | ((with_reducible apply zY); exact rfl; exact rfl; exact tf) | ((with_reducible apply zG); exact rfl; exact rfl; exact tf) | ((with_reducible apply zU); exact rfl; exact rfl) | ((with_reducible apply zD); exact rfl; exact rfl) | ((with_reducible apply zB); exact rfl; exact rfl)))
  refine awp_loopL (α := Nat) (fun k => [(2, .ptr 2 0), (3, .ptr 3 0), (4, .ptr 4 0), (7, .ptr 7 0), (8, .d (I dq)), (9, .lsl (bif k == 0 then 45 else 84) 0 (k + 1) 1), (10, .d (I (k + 1 : Nat)))]) (fun k => [(2, ⟨24, [rgV c, I den]⟩), (3, ⟨54, prfC (m + 1) w⟩), (4, ⟨56, [I 0, I 0]⟩), (7, ⟨56, [I N.num, I (N.den : Int)]⟩), (bif k == 0 then 45 else 84, ⟨3, ivs (lst (nmb den (losL c) m) (k + 1))⟩)]) (fun k => k ≤ m) (fun k => m - k) 0 (Nat.zero_le _) (And.intro rfl (And.intro rfl (And.intro rfl (And.intro rfl (And.intro rfl (And.intro rfl (And.intro rfl trivial))))))) (And.intro rfl (And.intro rfl (And.intro rfl (And.intro rfl (And.intro (congrArg (fun v => some (Blk.mk _ [I v])) hm0.symm) trivial))))) fun k hk => ?_
  by_cases hkm : k < m
  · have hne := hns k hkm
    have hSb := hnS k hk
    have hnx := hnb (k + 1) hkm
    have hsn : ivs (lst (nmb den (losL c) m) (k + 1)) ++ [I (nmb den (losL c) m (k + 1))] = ivs (lst (nmb den (losL c) m) (k + 1 + 1)) := ivs_snoc _ _ rfl
    have hln : (ivs (lst (nmb den (losL c) m) (k + 1))).length = (k + 1) * 1 := by rw [ivs_len, Nat.mul_one]
    have hll2 := lst_length (nmb den (losL c) m) (k + 1)
    rw [losL_len] at hne
    clear hns hnS hmst hsmI z1 z2 z3 hb1 hm0 w1 w2 w3 w4 w5
    have hqq : IntKind.i64.wrap ((nmb den (losL c) m (k + 1) * den).tdiv den) = nmb den (losL c) m (k + 1) := by rw [Int.mul_tdiv_cancel _ (by omega)]; exact wr (by omega)
    rw [← hne] at hqq
    rcases k with _ | k
    · (repeat' (first | (with_reducible first | intro hg | refine mv (by constructor) ?_) | ((with_reducible first | refine zR ?_ ?_ | refine zW mixed ?_ ?_); exact kr) | ((with_reducible apply zK); exact rfl; exact tf) | ((with_reducible apply zCD); exact rfl) | ((with_reducible apply zCN); exact rfl) | ((with_reducible apply zC); exact rfl) | ((with_reducible refine zX ?_ ?_); exact rfl) | ((with_reducible refine zE (And.intro ?_ ?_)); exact kr) | (with_reducible refine zE ?_) | ((with_reducible apply zP); exact dp) | ((with_reducible apply zN); exact dn) | ((with_reducible apply zA); exact da) | ((with_reducible apply zS); exact ds) | ((with_reducible apply zY); exact rfl; exact rfl; exact tf) | ((with_reducible apply zG); exact rfl; exact rfl; exact tf) | ((with_reducible apply zU); exact rfl; exact rfl) | ((with_reducible apply zD); exact rfl; exact rfl) | ((with_reducible apply zB); exact rfl; exact rfl)))
      refine awp_loopL (α := Nat) (fun i => [(2, .ptr 2 0), (3, .ptr 3 0), (4, .ptr 4 0), (7, .ptr 7 0), (8, .d (I dq)), (9, .lsl 45 0 (0 + 1) 1), (10, .d (I (0 + 1 : Nat))), (11, .d (I (nmS den (losL c) m (0) i))), (53, .d (rgV c)), (54, .d (I c.length)), (55, .d (I i))]) (fun _ => [(2, ⟨24, [rgV c, I den]⟩), (3, ⟨54, prfC (m + 1) w⟩), (4, ⟨56, [I 0, I 0]⟩), (7, ⟨56, [I N.num, I (N.den : Int)]⟩), (45, ⟨3, ivs (lst (nmb den (losL c) m) (0 + 1))⟩)]) (fun i => i ≤ c.length) (fun i => c.length - i) 0 (Nat.zero_le _) (And.intro rfl (And.intro rfl (And.intro rfl (And.intro rfl (And.intro rfl (And.intro rfl (And.intro rfl (And.intro rfl (And.intro rfl (And.intro rfl (And.intro rfl trivial))))))))))) (And.intro rfl (And.intro rfl (And.intro rfl (And.intro rfl (And.intro rfl trivial))))) fun i hi => ?_
      by_cases hil : i < c.length
      rotate_left
      · obtain rfl : i = c.length := by omega
        have hSn := hSb c.length
        have hk3 : c.length * (10 * K) ≤ 3 * (10 * K) := Nat.mul_le_mul_right _ (by omega)
        clear hSb hnb
        generalize nmS den (losL c) m (0) c.length = S0 at *
        (repeat' (first | (with_reducible first | intro hg | refine mv (by constructor) ?_) | ((with_reducible first | refine zR ?_ ?_ | refine zW mixed ?_ ?_); exact kr) | ((with_reducible apply zK); exact rfl; exact tf) | ((with_reducible apply zCD); exact rfl) | ((with_reducible apply zCN); exact rfl) | ((with_reducible apply zC); exact rfl) | ((with_reducible refine zX ?_ ?_); exact rfl) | ((with_reducible refine zE (And.intro ?_ ?_)); exact kr) | (with_reducible refine zE ?_) | ((with_reducible apply zP); (first | exact o_quo (r := nmb den (losL c) m (0 + 1)) rfl rfl (by omega) (by exact hqq) | exact dp)) | ((with_reducible apply zN); exact dn) | ((with_reducible apply zA); (first | ((apply o_app); (case hx => exact rfl); (case hm => exact rfl); (case hy => exact .own rfl rfl); (case hty => exact rfl); (case hl => solve | exact hln | rfl); (case hcl => solve | rfl | exact hln | simp); (case hpos => omega); (case hb => omega); (case hb2 => omega); (case hnew => exact rfl)) | ((apply o_app); (case hx => exact rfl); (case hm => exact rfl); (case hy => exact .sl rfl); (case hty => exact rfl); (case hl => solve | exact hln | rfl); (case hcl => solve | rfl | exact hln | simp); (case hpos => omega); (case hb => omega); (case hb2 => omega); (case hnew => exact rfl)) | exact da)) | ((with_reducible apply zS); exact ds) | ((with_reducible apply zY); exact rfl; exact rfl; exact tf) | ((with_reducible apply zG); exact rfl; exact rfl; exact tf) | ((with_reducible apply zU); exact rfl; exact rfl) | ((with_reducible apply zD); exact rfl; exact rfl) | ((with_reducible apply zB); exact rfl; exact rfl)))
        exact ⟨0 + 1, hkm, by omega, (And.intro rfl (And.intro rfl (And.intro rfl (And.intro rfl (And.intro rfl (And.intro rfl (And.intro (congrArg (fun n : Int => AV.d (I n)) (by omega)) trivial))))))), (And.intro rfl (And.intro rfl (And.intro rfl (And.intro rfl (And.intro (congrArg (fun l => some (Blk.mk _ l)) hsn) trivial)))))⟩
      have hS0 := hSb i
      have hS1 := hSb (i + 1)
      have hi1 : i * (10 * K) ≤ 3 * (10 * K) := Nat.mul_le_mul_right _ (by omega)
      have hi2 : (i + 1) * (10 * K) ≤ 3 * (10 * K) := Nat.mul_le_mul_right _ (by omega)
      have hsu : nmS den (losL c) m (0) (i + 1) = nmS den (losL c) m (0) i + bif decide (i ≤ 0) then nth (losL c) i * nmb den (losL c) m (0 - i) else 0 := rfl
      by_cases hit : i ≤ 0
      rotate_left
      · rw [decide_eq_false hit] at hsu
        have hsu : nmS den (losL c) m (0) (i + 1) = nmS den (losL c) m (0) i := by rw [hsu]; exact Int.add_zero _
        clear hS0 hS1 hSb hqq hnb
        generalize nmS den (losL c) m (0) i = S0 at *
        (repeat' (first | (with_reducible first | intro hg | refine mv (by constructor) ?_) | ((with_reducible first | refine zR ?_ ?_ | refine zW mixed ?_ ?_); exact kr) | ((with_reducible apply zK); exact rfl; exact tf) | ((with_reducible apply zCD); exact rfl) | ((with_reducible apply zCN); exact rfl) | ((with_reducible apply zC); exact rfl) | ((with_reducible refine zX ?_ ?_); exact rfl) | ((with_reducible refine zE (And.intro ?_ ?_)); exact kr) | (with_reducible refine zE ?_) | ((with_reducible apply zP); (first | exact o_indexF rg0 frC_len (by decide) rfl rfl (by omega) rfl | exact dp)) | ((with_reducible apply zN); exact dn) | ((with_reducible apply zA); exact da) | ((with_reducible apply zS); exact ds) | ((with_reducible apply zY); exact rfl; exact rfl; exact tf) | ((with_reducible apply zG); exact rfl; exact rfl; exact tf) | ((with_reducible apply zU); exact rfl; exact rfl) | ((with_reducible apply zD); exact rfl; exact rfl) | ((with_reducible apply zB); exact rfl; exact rfl)))
        exact ⟨i + 1, hil, by omega, (And.intro rfl (And.intro rfl (And.intro rfl (And.intro rfl (And.intro rfl (And.intro rfl (And.intro rfl (And.intro (congrArg (fun n : Int => AV.d (I n)) hsu.symm) (And.intro (rfl) (And.intro (rfl) (And.intro (rfl) trivial))))))))))), (And.intro rfl (And.intro rfl (And.intro rfl (And.intro rfl (And.intro rfl trivial)))))⟩
      rw [decide_eq_true hit, cond_true, losL_nth] at hsu
      have hnl : nth (lst (nmb den (losL c) m) (0 + 1)) (0 - i) = nmb den (losL c) m (0 - i) := lst_nth _ (by omega)
      rw [← hnl] at hsu
      have hlo := hlb i
      rw [losL_nth] at hlo
      have hnn := hnb (0 - i) (by omega)
      rw [← hnl] at hnn
      have hpr : ((c.getD i rg0).1 * nth (lst (nmb den (losL c) m) (0 + 1)) (0 - i)).natAbs ≤ 10 * K := by
        rw [Int.natAbs_mul]; exact Nat.mul_le_mul hlo hnn
      have hpr : -10000000000 ≤ (c.getD i rg0).1 * nth (lst (nmb den (losL c) m) (0 + 1)) (0 - i) ∧ (c.getD i rg0).1 * nth (lst (nmb den (losL c) m) (0 + 1)) (0 - i) ≤ 10000000000 := ⟨by omega, by omega⟩
      have hS0 : -10000000000 ≤ nmS den (losL c) m (0) i ∧ nmS den (losL c) m (0) i ≤ 10000000000 := ⟨by omega, by omega⟩
      have hS1 : -10000000000 ≤ nmS den (losL c) m (0) (i + 1) ∧ nmS den (losL c) m (0) (i + 1) ≤ 10000000000 := ⟨by omega, by omega⟩
      clear hSb hqq hnb hlo hnn hnl hi1 hi2 hne
      generalize nmS den (losL c) m (0) i = S0 at *
      (repeat' (first | (with_reducible first | intro hg | refine mv (by constructor) ?_) | ((with_reducible first | refine zR ?_ ?_ | refine zW mixed ?_ ?_); exact kr) | ((with_reducible apply zK); exact rfl; exact tf) | ((with_reducible apply zCD); exact rfl) | ((with_reducible apply zCN); exact rfl) | ((with_reducible apply zC); exact rfl) | ((with_reducible refine zX ?_ ?_); exact rfl) | ((with_reducible refine zE (And.intro ?_ ?_)); exact kr) | (with_reducible refine zE ?_) | ((with_reducible apply zP); (first | exact o_indexF rg0 frC_len (by decide) rfl rfl (by omega) rfl | exact o_indexL (o := 0 - i) rfl rfl (by omega) (by omega) (by omega) | exact dp)) | ((with_reducible apply zN); exact dn) | ((with_reducible apply zA); exact da) | ((with_reducible apply zS); exact ds) | ((with_reducible apply zY); exact rfl; exact rfl; exact tf) | ((with_reducible apply zG); exact rfl; exact rfl; exact tf) | ((with_reducible apply zU); exact rfl; exact rfl) | ((with_reducible apply zD); exact rfl; exact rfl) | ((with_reducible apply zB); exact rfl; exact rfl)))
      exact ⟨i + 1, hil, by omega, (And.intro rfl (And.intro rfl (And.intro rfl (And.intro rfl (And.intro rfl (And.intro rfl (And.intro rfl (And.intro (congrArg (fun n : Int => AV.d (I n)) hsu.symm) (And.intro (rfl) (And.intro (rfl) (And.intro (rfl) trivial))))))))))), (And.intro rfl (And.intro rfl (And.intro rfl (And.intro rfl (And.intro rfl trivial)))))⟩
    · (repeat' (first | (with_reducible first | intro hg | refine mv (by constructor) ?_) | ((with_reducible first | refine zR ?_ ?_ | refine zW mixed ?_ ?_); exact kr) | ((with_reducible apply zK); exact rfl; exact tf) | ((with_reducible apply zCD); exact rfl) | ((with_reducible apply zCN); exact rfl) | ((with_reducible apply zC); exact rfl) | ((with_reducible refine zX ?_ ?_); exact rfl) | ((with_reducible refine zE (And.intro ?_ ?_)); exact kr) | (with_reducible refine zE ?_) | ((with_reducible apply zP); exact dp) | ((with_reducible apply zN); exact dn) | ((with_reducible apply zA); exact da) | ((with_reducible apply zS); exact ds) | ((with_reducible apply zY); exact rfl; exact rfl; exact tf) | ((with_reducible apply zG); exact rfl; exact rfl; exact tf) | ((with_reducible apply zU); exact rfl; exact rfl) | ((with_reducible apply zD); exact rfl; exact rfl) | ((with_reducible apply zB); exact rfl; exact rfl)))
      refine awp_loopL (α := Nat) (fun i => [(2, .ptr 2 0), (3, .ptr 3 0), (4, .ptr 4 0), (7, .ptr 7 0), (8, .d (I dq)), (9, .lsl 84 0 (k + 1 + 1) 1), (10, .d (I (k + 1 + 1 : Nat))), (11, .d (I (nmS den (losL c) m (k + 1) i))), (53, .d (rgV c)), (54, .d (I c.length)), (55, .d (I i))]) (fun _ => [(2, ⟨24, [rgV c, I den]⟩), (3, ⟨54, prfC (m + 1) w⟩), (4, ⟨56, [I 0, I 0]⟩), (7, ⟨56, [I N.num, I (N.den : Int)]⟩), (84, ⟨3, ivs (lst (nmb den (losL c) m) (k + 1 + 1))⟩)]) (fun i => i ≤ c.length) (fun i => c.length - i) 0 (Nat.zero_le _) (And.intro rfl (And.intro rfl (And.intro rfl (And.intro rfl (And.intro rfl (And.intro rfl (And.intro rfl (And.intro rfl (And.intro rfl (And.intro rfl (And.intro rfl trivial))))))))))) (And.intro rfl (And.intro rfl (And.intro rfl (And.intro rfl (And.intro rfl trivial))))) fun i hi => ?_
      by_cases hil : i < c.length
      rotate_left
      · obtain rfl : i = c.length := by omega
        have hSn := hSb c.length
        have hk3 : c.length * (10 * K) ≤ 3 * (10 * K) := Nat.mul_le_mul_right _ (by omega)
        clear hSb hnb
        generalize nmS den (losL c) m (k + 1) c.length = S0 at *
        (repeat' (first | (with_reducible first | intro hg | refine mv (by constructor) ?_) | ((with_reducible first | refine zR ?_ ?_ | refine zW mixed ?_ ?_); exact kr) | ((with_reducible apply zK); exact rfl; exact tf) | ((with_reducible apply zCD); exact rfl) | ((with_reducible apply zCN); exact rfl) | ((with_reducible apply zC); exact rfl) | ((with_reducible refine zX ?_ ?_); exact rfl) | ((with_reducible refine zE (And.intro ?_ ?_)); exact kr) | (with_reducible refine zE ?_) | ((with_reducible apply zP); (first | exact o_quo (r := nmb den (losL c) m (k + 1 + 1)) rfl rfl (by omega) (by exact hqq) | exact dp)) | ((with_reducible apply zN); exact dn) | ((with_reducible apply zA); (first | ((apply o_app); (case hx => exact rfl); (case hm => exact rfl); (case hy => exact .own rfl rfl); (case hty => exact rfl); (case hl => solve | exact hln | rfl); (case hcl => solve | rfl | exact hln | simp); (case hpos => omega); (case hb => omega); (case hb2 => omega); (case hnew => exact rfl)) | ((apply o_app); (case hx => exact rfl); (case hm => exact rfl); (case hy => exact .sl rfl); (case hty => exact rfl); (case hl => solve | exact hln | rfl); (case hcl => solve | rfl | exact hln | simp); (case hpos => omega); (case hb => omega); (case hb2 => omega); (case hnew => exact rfl)) | exact da)) | ((with_reducible apply zS); exact ds) | ((with_reducible apply zY); exact rfl; exact rfl; exact tf) | ((with_reducible apply zG); exact rfl; exact rfl; exact tf) | ((with_reducible apply zU); exact rfl; exact rfl) | ((with_reducible apply zD); exact rfl; exact rfl) | ((with_reducible apply zB); exact rfl; exact rfl)))
        exact ⟨k + 1 + 1, hkm, by omega, (And.intro rfl (And.intro rfl (And.intro rfl (And.intro rfl (And.intro rfl (And.intro rfl (And.intro (congrArg (fun n : Int => AV.d (I n)) (by omega)) trivial))))))), (And.intro rfl (And.intro rfl (And.intro rfl (And.intro rfl (And.intro (congrArg (fun l => some (Blk.mk _ l)) hsn) trivial)))))⟩
      have hS0 := hSb i
      have hS1 := hSb (i + 1)
      have hi1 : i * (10 * K) ≤ 3 * (10 * K) := Nat.mul_le_mul_right _ (by omega)
      have hi2 : (i + 1) * (10 * K) ≤ 3 * (10 * K) := Nat.mul_le_mul_right _ (by omega)
      have hsu : nmS den (losL c) m (k + 1) (i + 1) = nmS den (losL c) m (k + 1) i + bif decide (i ≤ k + 1) then nth (losL c) i * nmb den (losL c) m (k + 1 - i) else 0 := rfl
      by_cases hit : i ≤ k + 1
      rotate_left
      · rw [decide_eq_false hit] at hsu
        have hsu : nmS den (losL c) m (k + 1) (i + 1) = nmS den (losL c) m (k + 1) i := by rw [hsu]; exact Int.add_zero _
        clear hS0 hS1 hSb hqq hnb
        generalize nmS den (losL c) m (k + 1) i = S0 at *
        (repeat' (first | (with_reducible first | intro hg | refine mv (by constructor) ?_) | ((with_reducible first | refine zR ?_ ?_ | refine zW mixed ?_ ?_); exact kr) | ((with_reducible apply zK); exact rfl; exact tf) | ((with_reducible apply zCD); exact rfl) | ((with_reducible apply zCN); exact rfl) | ((with_reducible apply zC); exact rfl) | ((with_reducible refine zX ?_ ?_); exact rfl) | ((with_reducible refine zE (And.intro ?_ ?_)); exact kr) | (with_reducible refine zE ?_) | ((with_reducible apply zP); (first | exact o_indexF rg0 frC_len (by decide) rfl rfl (by omega) rfl | exact dp)) | ((with_reducible apply zN); exact dn) | ((with_reducible apply zA); exact da) | ((with_reducible apply zS); exact ds) | ((with_reducible apply zY); exact rfl; exact rfl; exact tf) | ((with_reducible apply zG); exact rfl; exact rfl; exact tf) | ((with_reducible apply zU); exact rfl; exact rfl) | ((with_reducible apply zD); exact rfl; exact rfl) | ((with_reducible apply zB); exact rfl; exact rfl)))
        exact ⟨i + 1, hil, by omega, (And.intro rfl (And.intro rfl (And.intro rfl (And.intro rfl (And.intro rfl (And.intro rfl (And.intro rfl (And.intro (congrArg (fun n : Int => AV.d (I n)) hsu.symm) (And.intro (rfl) (And.intro (rfl) (And.intro (rfl) trivial))))))))))), (And.intro rfl (And.intro rfl (And.intro rfl (And.intro rfl (And.intro rfl trivial)))))⟩
      rw [decide_eq_true hit, cond_true, losL_nth] at hsu
      have hnl : nth (lst (nmb den (losL c) m) (k + 1 + 1)) (k + 1 - i) = nmb den (losL c) m (k + 1 - i) := lst_nth _ (by omega)
      rw [← hnl] at hsu
      have hlo := hlb i
      rw [losL_nth] at hlo
      have hnn := hnb (k + 1 - i) (by omega)
      rw [← hnl] at hnn
      have hpr : ((c.getD i rg0).1 * nth (lst (nmb den (losL c) m) (k + 1 + 1)) (k + 1 - i)).natAbs ≤ 10 * K := by
        rw [Int.natAbs_mul]; exact Nat.mul_le_mul hlo hnn
      have hpr : -10000000000 ≤ (c.getD i rg0).1 * nth (lst (nmb den (losL c) m) (k + 1 + 1)) (k + 1 - i) ∧ (c.getD i rg0).1 * nth (lst (nmb den (losL c) m) (k + 1 + 1)) (k + 1 - i) ≤ 10000000000 := ⟨by omega, by omega⟩
      have hS0 : -10000000000 ≤ nmS den (losL c) m (k + 1) i ∧ nmS den (losL c) m (k + 1) i ≤ 10000000000 := ⟨by omega, by omega⟩
      have hS1 : -10000000000 ≤ nmS den (losL c) m (k + 1) (i + 1) ∧ nmS den (losL c) m (k + 1) (i + 1) ≤ 10000000000 := ⟨by omega, by omega⟩
      clear hSb hqq hnb hlo hnn hnl hi1 hi2 hne
      generalize nmS den (losL c) m (k + 1) i = S0 at *
      (repeat' (first | (with_reducible first | intro hg | refine mv (by constructor) ?_) | ((with_reducible first | refine zR ?_ ?_ | refine zW mixed ?_ ?_); exact kr) | ((with_reducible apply zK); exact rfl; exact tf) | ((with_reducible apply zCD); exact rfl) | ((with_reducible apply zCN); exact rfl) | ((with_reducible apply zC); exact rfl) | ((with_reducible refine zX ?_ ?_); exact rfl) | ((with_reducible refine zE (And.intro ?_ ?_)); exact kr) | (with_reducible refine zE ?_) | ((with_reducible apply zP); (first | exact o_indexF rg0 frC_len (by decide) rfl rfl (by omega) rfl | exact o_indexL (o := k + 1 - i) rfl rfl (by omega) (by omega) (by omega) | exact dp)) | ((with_reducible apply zN); exact dn) | ((with_reducible apply zA); exact da) | ((with_reducible apply zS); exact ds) | ((with_reducible apply zY); exact rfl; exact rfl; exact tf) | ((with_reducible apply zG); exact rfl; exact rfl; exact tf) | ((with_reducible apply zU); exact rfl; exact rfl) | ((with_reducible apply zD); exact rfl; exact rfl) | ((with_reducible apply zB); exact rfl; exact rfl)))
      exact ⟨i + 1, hil, by omega, (And.intro rfl (And.intro rfl (And.intro rfl (And.intro rfl (And.intro rfl (And.intro rfl (And.intro rfl (And.intro (congrArg (fun n : Int => AV.d (I n)) hsu.symm) (And.intro (rfl) (And.intro (rfl) (And.intro (rfl) trivial))))))))))), (And.intro rfl (And.intro rfl (And.intro rfl (And.intro rfl (And.intro rfl trivial)))))⟩
  obtain rfl : k = m := by omega
  have hfz : ∀ l : List DV, l = ivs (lst (nmb den (losL c) k) (k + 1)) → AV.d (.slice (k + 1) ((l.drop 0).take ((k + 1) * 1))) = .d (isl (lst (nmb den (losL c) k) (k + 1))) := fun l hl => by
    subst hl
    rw [List.drop_zero, List.take_of_length_le (by rw [ivs_len]; omega)]
    show _ = AV.d (DV.slice (lst (nmb den (losL c) k) (k + 1)).length _)
    rw [lst_length]
  clear hns hnS hm0 w1 w2 w3 w4 w5 hkm
  rcases k with _ | k
  · refine awp_freeze 45 rfl ?_
    (repeat' ((fail_if_success (with_reducible show AWp _ _ (.region 20 _ _) _ _)); (first | (with_reducible first | intro hg | refine mv (by constructor) ?_) | ((with_reducible first | refine zR ?_ ?_ | refine zW mixed ?_ ?_); exact kr) | ((with_reducible apply zK); exact rfl; exact tf) | ((with_reducible apply zCD); exact rfl) | ((with_reducible apply zCN); exact rfl) | ((with_reducible apply zC); exact rfl) | ((with_reducible refine zX ?_ ?_); exact rfl) | ((with_reducible refine zE (And.intro ?_ ?_)); exact kr) | (with_reducible refine zE ?_) | ((with_reducible apply zP); exact dp) | ((with_reducible apply zN); exact dn) | ((with_reducible apply zA); exact da) | ((with_reducible apply zS); exact ds) | ((with_reducible apply zY); exact rfl; exact rfl; exact tf) | ((with_reducible apply zG); exact rfl; exact rfl; exact tf) | ((with_reducible apply zU); exact rfl; exact rfl) | ((with_reducible apply zD); exact rfl; exact rfl) | ((with_reducible apply zB); exact rfl; exact rfl))))
    have hsl : (lst (nmb den (losL c) (0)) (0 + 1)).length = 0 + 1 := lst_length _ _
    refine awp_cut [(2, .ptr 2 0), (3, .ptr 3 0), (4, .ptr 4 0), (7, .ptr 7 0), (8, .d (I dq)), (9, .d (isl (lst (nmb den (losL c) (0)) (0 + 1))))] [(2, ⟨24, [rgV c, I den]⟩), (3, ⟨54, prfC (0 + 1) w⟩), (4, ⟨56, [I 0, I 0]⟩), (7, ⟨56, [I N.num, I (N.den : Int)]⟩)] (And.intro rfl (And.intro rfl (And.intro rfl (And.intro rfl (And.intro rfl (And.intro (hfz _ rfl) trivial)))))) (And.intro rfl (And.intro rfl (And.intro rfl (And.intro rfl trivial)))) ?_
    (repeat' (first | (with_reducible first | intro hg | refine mv (by constructor) ?_) | ((with_reducible first | refine zR ?_ ?_ | refine zW mixed ?_ ?_); exact kr) | ((with_reducible apply zK); exact rfl; exact tf) | ((with_reducible apply zCD); exact rfl) | ((with_reducible apply zCN); exact rfl) | ((with_reducible apply zC); exact rfl) | ((with_reducible refine zX ?_ ?_); exact rfl) | ((with_reducible refine zE (And.intro ?_ ?_)); exact kr) | (with_reducible refine zE ?_) | ((with_reducible apply zP); exact dp) | ((with_reducible apply zN); exact dn) | ((with_reducible apply zA); exact da) | ((with_reducible apply zS); exact ds) | ((with_reducible apply zY); exact rfl; exact rfl; exact tf) | ((with_reducible apply zG); exact rfl; exact rfl; exact tf) | ((with_reducible apply zU); exact rfl; exact rfl) | ((with_reducible apply zD); exact rfl; exact rfl) | ((with_reducible apply zB); exact rfl; exact rfl)))
    refine awp_loopL (α := Nat) (fun t => [(2, .ptr 2 0), (3, .ptr 3 0), (4, .ptr 4 0), (7, .ptr 7 0), (8, .d (I dq)), (9, .d (isl (lst (nmb den (losL c) (0)) (0 + 1)))), (14, .d (I (smI den (losL c) w (0) c.length t))), (86, .d (I (0 + 1 : Nat))), (87, .d (I t))]) (fun _ => [(2, ⟨24, [rgV c, I den]⟩), (3, ⟨54, prfC (0 + 1) w⟩), (4, ⟨56, [I 0, I 0]⟩), (7, ⟨56, [I N.num, I (N.den : Int)]⟩)]) (fun t => t ≤ 0 + 1) (fun t => 0 + 1 - t) 0 (Nat.zero_le _) (And.intro rfl (And.intro rfl (And.intro rfl (And.intro rfl (And.intro rfl (And.intro rfl (And.intro rfl (And.intro rfl (And.intro rfl trivial))))))))) (And.intro rfl (And.intro rfl (And.intro rfl (And.intro rfl trivial)))) fun t ht => ?_
    by_cases htl : t < 0 + 1
    rotate_left
    · obtain rfl : t = 0 + 1 := by omega
      (repeat' (first | (with_reducible first | intro hg | refine mv (by constructor) ?_) | ((with_reducible first | refine zR ?_ ?_ | refine zW mixed ?_ ?_); exact kr) | ((with_reducible apply zK); exact rfl; exact tf) | ((with_reducible apply zCD); exact rfl) | ((with_reducible apply zCN); exact rfl) | ((with_reducible apply zC); exact rfl) | ((with_reducible refine zX ?_ ?_); exact rfl) | ((with_reducible refine zE (And.intro ?_ ?_)); exact kr) | (with_reducible refine zE ?_) | ((with_reducible apply zP); (first | exact o_indexI (xs := w) (j := 0) rfl rfl (by omega) rfl | exact o_mul rfl rfl (wr (by exact hb1)) | exact dp | exact oc rfl (z1) | exact oc rfl (z2) | exact oc rfl (z3))) | ((with_reducible apply zN); exact dn) | ((with_reducible apply zA); exact da) | ((with_reducible apply zS); exact ds) | ((with_reducible apply zY); exact rfl; exact rfl; exact tf) | ((with_reducible apply zG); exact rfl; exact rfl; exact tf) | ((with_reducible apply zU); exact rfl; exact rfl) | ((with_reducible apply zD); exact rfl; exact rfl) | ((with_reducible apply zB); exact rfl; exact rfl)))
      ((with_reducible first | apply q_retR | apply q_retN); exact rl)
      rfl
    (repeat' (first | (with_reducible first | intro hg | refine mv (by constructor) ?_) | ((with_reducible first | refine zR ?_ ?_ | refine zW mixed ?_ ?_); exact kr) | ((with_reducible apply zK); exact rfl; exact tf) | ((with_reducible apply zCD); exact rfl) | ((with_reducible apply zCN); exact rfl) | ((with_reducible apply zC); exact rfl) | ((with_reducible refine zX ?_ ?_); exact rfl) | ((with_reducible refine zE (And.intro ?_ ?_)); exact kr) | (with_reducible refine zE ?_) | ((with_reducible apply zP); exact dp) | ((with_reducible apply zN); exact dn) | ((with_reducible apply zA); exact da) | ((with_reducible apply zS); exact ds) | ((with_reducible apply zY); exact rfl; exact rfl; exact tf) | ((with_reducible apply zG); exact rfl; exact rfl; exact tf) | ((with_reducible apply zU); exact rfl; exact rfl) | ((with_reducible apply zD); exact rfl; exact rfl) | ((with_reducible apply zB); exact rfl; exact rfl)))
    have hmb := hmst t (by omega)
    refine awp_loopL (α := Nat) (fun i => [(2, .ptr 2 0), (3, .ptr 3 0), (4, .ptr 4 0), (7, .ptr 7 0), (8, .d (I dq)), (9, .d (isl (lst (nmb den (losL c) (0)) (0 + 1)))), (14, .d (I (smI den (losL c) w (0) c.length t))), (15, .d (I t)), (16, .d (I (mst den (losL c) w (0) t i))), (86, .d (I (0 + 1 : Nat))), (87, .d (I t)), (91, .d (isl w)), (92, .d (I c.length)), (93, .d (I i))]) (fun _ => [(2, ⟨24, [rgV c, I den]⟩), (3, ⟨54, prfC (0 + 1) w⟩), (4, ⟨56, [I 0, I 0]⟩), (7, ⟨56, [I N.num, I (N.den : Int)]⟩)]) (fun i => i ≤ c.length) (fun i => c.length - i) 0 (Nat.zero_le _) (And.intro rfl (And.intro rfl (And.intro rfl (And.intro rfl (And.intro rfl (And.intro rfl (And.intro rfl (And.intro rfl (And.intro rfl (And.intro rfl (And.intro rfl (And.intro rfl (And.intro (congrArg (fun n : Nat => AV.d (I n)) hwl) (And.intro (rfl) trivial)))))))))))))) (And.intro rfl (And.intro rfl (And.intro rfl (And.intro rfl trivial)))) fun i hi => ?_
    by_cases hil : i < c.length
    rotate_left
    · obtain rfl : i = c.length := by omega
      have hsm := hsmI t (by omega)
      have hsm1 := hsmI (t + 1) (by omega)
      have hms := hmb c.length (Nat.le_refl _)
      have hsu : smI den (losL c) w (0) c.length (t + 1) = smI den (losL c) w (0) c.length t + mst den (losL c) w (0) t c.length := rfl
      have hk1 : t * (K * 2520) ≤ 6 * (K * 2520) := Nat.mul_le_mul_right _ (by omega)
      have hk2 : (t + 1) * (K * 2520) ≤ 6 * (K * 2520) := Nat.mul_le_mul_right _ (by omega)
      clear hmb hmst hsmI hnb hb1 z1 z2 z3
      generalize smI den (losL c) w (0) c.length t = S0 at *
      generalize mst den (losL c) w (0) t c.length = M0 at *
      (repeat' (first | (with_reducible first | intro hg | refine mv (by constructor) ?_) | ((with_reducible first | refine zR ?_ ?_ | refine zW mixed ?_ ?_); exact kr) | ((with_reducible apply zK); exact rfl; exact tf) | ((with_reducible apply zCD); exact rfl) | ((with_reducible apply zCN); exact rfl) | ((with_reducible apply zC); exact rfl) | ((with_reducible refine zX ?_ ?_); exact rfl) | ((with_reducible refine zE (And.intro ?_ ?_)); exact kr) | (with_reducible refine zE ?_) | ((with_reducible apply zP); exact dp) | ((with_reducible apply zN); exact dn) | ((with_reducible apply zA); exact da) | ((with_reducible apply zS); exact ds) | ((with_reducible apply zY); exact rfl; exact rfl; exact tf) | ((with_reducible apply zG); exact rfl; exact rfl; exact tf) | ((with_reducible apply zU); exact rfl; exact rfl) | ((with_reducible apply zD); exact rfl; exact rfl) | ((with_reducible apply zB); exact rfl; exact rfl)))
      exact ⟨t + 1, htl, by omega, (And.intro rfl (And.intro rfl (And.intro rfl (And.intro rfl (And.intro rfl (And.intro rfl (And.intro (congrArg (fun n : Int => AV.d (I n)) hsu.symm) (And.intro (rfl) (And.intro (rfl) trivial))))))))), (And.intro rfl (And.intro rfl (And.intro rfl (And.intro rfl trivial))))⟩
    have hms := hmb i (by omega)
    have hms1 := hmb (i + 1) (by omega)
    have hwi := hw i hil
    have hsu : mst den (losL c) w (0) t (i + 1) = bif decide (i ≤ t) then max (mst den (losL c) w (0) t i) (((nmb den (losL c) (0) (t - i)).natAbs : Int) * (2520 / nth w i)) else mst den (losL c) w (0) t i := rfl
    clear hmb hmst hsmI hb1 z1 z2 z3
    by_cases hit : i ≤ t
    rotate_left
    · rw [decide_eq_false hit] at hsu
      have hsu : mst den (losL c) w (0) t (i + 1) = mst den (losL c) w (0) t i := hsu
      generalize mst den (losL c) w (0) t i = M0 at *
      (repeat' (first | (with_reducible first | intro hg | refine mv (by constructor) ?_) | ((with_reducible first | refine zR ?_ ?_ | refine zW mixed ?_ ?_); exact kr) | ((with_reducible apply zK); exact rfl; exact tf) | ((with_reducible apply zCD); exact rfl) | ((with_reducible apply zCN); exact rfl) | ((with_reducible apply zC); exact rfl) | ((with_reducible refine zX ?_ ?_); exact rfl) | ((with_reducible refine zE (And.intro ?_ ?_)); exact kr) | (with_reducible refine zE ?_) | ((with_reducible apply zP); (first | exact o_indexI (xs := w) (j := i) rfl rfl (by omega) rfl | exact dp)) | ((with_reducible apply zN); exact dn) | ((with_reducible apply zA); exact da) | ((with_reducible apply zS); exact ds) | ((with_reducible apply zY); exact rfl; exact rfl; exact tf) | ((with_reducible apply zG); exact rfl; exact rfl; exact tf) | ((with_reducible apply zU); exact rfl; exact rfl) | ((with_reducible apply zD); exact rfl; exact rfl) | ((with_reducible apply zB); exact rfl; exact rfl)))
      exact ⟨i + 1, hil, by omega, (And.intro rfl (And.intro rfl (And.intro rfl (And.intro rfl (And.intro rfl (And.intro rfl (And.intro rfl (And.intro rfl (And.intro (congrArg (fun n : Int => AV.d (I n)) hsu.symm) (And.intro (rfl) (And.intro (rfl) (And.intro (rfl) (And.intro (rfl) (And.intro (rfl) trivial)))))))))))))), (And.intro rfl (And.intro rfl (And.intro rfl (And.intro rfl trivial))))⟩
    rw [decide_eq_true hit, cond_true] at hsu
    have hti : (t : Int) - i = ((t - i : Nat) : Int) := by omega
    have hnl : nth (lst (nmb den (losL c) (0)) (0 + 1)) (t - i) = nmb den (losL c) (0) (t - i) := lst_nth _ (by omega)
    have hnn := hnb (t - i) (by omega)
    have d1 : 0 ≤ 2520 / nth w i ∧ 2520 / nth w i ≤ 2520 := ⟨Int.ediv_nonneg (by decide) (by omega), Int.ediv_le_self _ (by decide)⟩
    have ws := size_A (nmb den (losL c) (0) (t - i)) ⟨by omega, by omega⟩
    have hpr : 0 ≤ ((nmb den (losL c) (0) (t - i)).natAbs : Int) * (2520 / nth w i) ∧ ((nmb den (losL c) (0) (t - i)).natAbs : Int) * (2520 / nth w i) ≤ (K : Int) * 2520 := ⟨Int.mul_nonneg (by omega) d1.1, Int.mul_le_mul (by omega) d1.2 d1.1 (by omega)⟩
    rw [← hnl] at ws hsu hpr
    clear hnl hnn hnb
    generalize lst (nmb den (losL c) (0)) (0 + 1) = X at *
    generalize mst den (losL c) w (0) t i = M0 at *
    (repeat' (first | (with_reducible first | intro hg | refine mv (by constructor) ?_) | ((with_reducible first | refine zR ?_ ?_ | refine zW mixed ?_ ?_); exact kr) | ((with_reducible apply zK); exact rfl; exact tf) | ((with_reducible apply zCD); exact rfl) | ((with_reducible apply zCN); exact rfl) | ((with_reducible apply zC); exact rfl) | ((with_reducible refine zX ?_ ?_); exact rfl) | ((with_reducible refine zE (And.intro ?_ ?_)); exact kr) | (with_reducible refine zE ?_) | ((with_reducible apply zP); (first | exact o_indexI (xs := w) (j := i) rfl rfl (by omega) rfl | exact o_indexI (xs := X) (j := t - i) rfl (congrArg (fun n : Int => AV.d (I n)) hti) (by omega) rfl | exact dp | exact oc rfl (ws))) | ((with_reducible apply zN); exact dn) | ((with_reducible apply zA); exact da) | ((with_reducible apply zS); exact ds) | ((with_reducible apply zY); exact rfl; exact rfl; exact tf) | ((with_reducible apply zG); exact rfl; exact rfl; exact tf) | ((with_reducible apply zU); exact rfl; exact rfl) | ((with_reducible apply zD); exact rfl; exact rfl) | ((with_reducible apply zB); exact rfl; exact rfl)))
    exact ⟨i + 1, hil, by omega, (And.intro rfl (And.intro rfl (And.intro rfl (And.intro rfl (And.intro rfl (And.intro rfl (And.intro rfl (And.intro rfl (And.intro (congrArg (fun n : Int => AV.d (I n)) hsu.symm) (And.intro (rfl) (And.intro (rfl) (And.intro (rfl) (And.intro (rfl) (And.intro (rfl) trivial)))))))))))))), (And.intro rfl (And.intro rfl (And.intro rfl (And.intro rfl trivial))))⟩
  · refine awp_freeze 84 rfl ?_
    (repeat' ((fail_if_success (with_reducible show AWp _ _ (.region 20 _ _) _ _)); (first | (with_reducible first | intro hg | refine mv (by constructor) ?_) | ((with_reducible first | refine zR ?_ ?_ | refine zW mixed ?_ ?_); exact kr) | ((with_reducible apply zK); exact rfl; exact tf) | ((with_reducible apply zCD); exact rfl) | ((with_reducible apply zCN); exact rfl) | ((with_reducible apply zC); exact rfl) | ((with_reducible refine zX ?_ ?_); exact rfl) | ((with_reducible refine zE (And.intro ?_ ?_)); exact kr) | (with_reducible refine zE ?_) | ((with_reducible apply zP); exact dp) | ((with_reducible apply zN); exact dn) | ((with_reducible apply zA); exact da) | ((with_reducible apply zS); exact ds) | ((with_reducible apply zY); exact rfl; exact rfl; exact tf) | ((with_reducible apply zG); exact rfl; exact rfl; exact tf) | ((with_reducible apply zU); exact rfl; exact rfl) | ((with_reducible apply zD); exact rfl; exact rfl) | ((with_reducible apply zB); exact rfl; exact rfl))))
    have hsl : (lst (nmb den (losL c) (k + 1)) (k + 1 + 1)).length = k + 1 + 1 := lst_length _ _
    refine awp_cut [(2, .ptr 2 0), (3, .ptr 3 0), (4, .ptr 4 0), (7, .ptr 7 0), (8, .d (I dq)), (9, .d (isl (lst (nmb den (losL c) (k + 1)) (k + 1 + 1))))] [(2, ⟨24, [rgV c, I den]⟩), (3, ⟨54, prfC (k + 1 + 1) w⟩), (4, ⟨56, [I 0, I 0]⟩), (7, ⟨56, [I N.num, I (N.den : Int)]⟩)] (And.intro rfl (And.intro rfl (And.intro rfl (And.intro rfl (And.intro rfl (And.intro (hfz _ rfl) trivial)))))) (And.intro rfl (And.intro rfl (And.intro rfl (And.intro rfl trivial)))) ?_
    (repeat' (first | (with_reducible first | intro hg | refine mv (by constructor) ?_) | ((with_reducible first | refine zR ?_ ?_ | refine zW mixed ?_ ?_); exact kr) | ((with_reducible apply zK); exact rfl; exact tf) | ((with_reducible apply zCD); exact rfl) | ((with_reducible apply zCN); exact rfl) | ((with_reducible apply zC); exact rfl) | ((with_reducible refine zX ?_ ?_); exact rfl) | ((with_reducible refine zE (And.intro ?_ ?_)); exact kr) | (with_reducible refine zE ?_) | ((with_reducible apply zP); exact dp) | ((with_reducible apply zN); exact dn) | ((with_reducible apply zA); exact da) | ((with_reducible apply zS); exact ds) | ((with_reducible apply zY); exact rfl; exact rfl; exact tf) | ((with_reducible apply zG); exact rfl; exact rfl; exact tf) | ((with_reducible apply zU); exact rfl; exact rfl) | ((with_reducible apply zD); exact rfl; exact rfl) | ((with_reducible apply zB); exact rfl; exact rfl)))
    refine awp_loopL (α := Nat) (fun t => [(2, .ptr 2 0), (3, .ptr 3 0), (4, .ptr 4 0), (7, .ptr 7 0), (8, .d (I dq)), (9, .d (isl (lst (nmb den (losL c) (k + 1)) (k + 1 + 1)))), (14, .d (I (smI den (losL c) w (k + 1) c.length t))), (86, .d (I (k + 1 + 1 : Nat))), (87, .d (I t))]) (fun _ => [(2, ⟨24, [rgV c, I den]⟩), (3, ⟨54, prfC (k + 1 + 1) w⟩), (4, ⟨56, [I 0, I 0]⟩), (7, ⟨56, [I N.num, I (N.den : Int)]⟩)]) (fun t => t ≤ k + 1 + 1) (fun t => k + 1 + 1 - t) 0 (Nat.zero_le _) (And.intro rfl (And.intro rfl (And.intro rfl (And.intro rfl (And.intro rfl (And.intro rfl (And.intro rfl (And.intro rfl (And.intro rfl trivial))))))))) (And.intro rfl (And.intro rfl (And.intro rfl (And.intro rfl trivial)))) fun t ht => ?_
    by_cases htl : t < k + 1 + 1
    rotate_left
    · obtain rfl : t = k + 1 + 1 := by omega
      (repeat' (first | (with_reducible first | intro hg | refine mv (by constructor) ?_) | ((with_reducible first | refine zR ?_ ?_ | refine zW mixed ?_ ?_); exact kr) | ((with_reducible apply zK); exact rfl; exact tf) | ((with_reducible apply zCD); exact rfl) | ((with_reducible apply zCN); exact rfl) | ((with_reducible apply zC); exact rfl) | ((with_reducible refine zX ?_ ?_); exact rfl) | ((with_reducible refine zE (And.intro ?_ ?_)); exact kr) | (with_reducible refine zE ?_) | ((with_reducible apply zP); (first | exact o_indexI (xs := w) (j := 0) rfl rfl (by omega) rfl | exact o_mul rfl rfl (wr (by exact hb1)) | exact dp | exact oc rfl (z1) | exact oc rfl (z2) | exact oc rfl (z3))) | ((with_reducible apply zN); exact dn) | ((with_reducible apply zA); exact da) | ((with_reducible apply zS); exact ds) | ((with_reducible apply zY); exact rfl; exact rfl; exact tf) | ((with_reducible apply zG); exact rfl; exact rfl; exact tf) | ((with_reducible apply zU); exact rfl; exact rfl) | ((with_reducible apply zD); exact rfl; exact rfl) | ((with_reducible apply zB); exact rfl; exact rfl)))
      ((with_reducible first | apply q_retR | apply q_retN); exact rl)
      rfl
    (repeat' (first | (with_reducible first | intro hg | refine mv (by constructor) ?_) | ((with_reducible first | refine zR ?_ ?_ | refine zW mixed ?_ ?_); exact kr) | ((with_reducible apply zK); exact rfl; exact tf) | ((with_reducible apply zCD); exact rfl) | ((with_reducible apply zCN); exact rfl) | ((with_reducible apply zC); exact rfl) | ((with_reducible refine zX ?_ ?_); exact rfl) | ((with_reducible refine zE (And.intro ?_ ?_)); exact kr) | (with_reducible refine zE ?_) | ((with_reducible apply zP); exact dp) | ((with_reducible apply zN); exact dn) | ((with_reducible apply zA); exact da) | ((with_reducible apply zS); exact ds) | ((with_reducible apply zY); exact rfl; exact rfl; exact tf) | ((with_reducible apply zG); exact rfl; exact rfl; exact tf) | ((with_reducible apply zU); exact rfl; exact rfl) | ((with_reducible apply zD); exact rfl; exact rfl) | ((with_reducible apply zB); exact rfl; exact rfl)))
    have hmb := hmst t (by omega)
    refine awp_loopL (α := Nat) (fun i => [(2, .ptr 2 0), (3, .ptr 3 0), (4, .ptr 4 0), (7, .ptr 7 0), (8, .d (I dq)), (9, .d (isl (lst (nmb den (losL c) (k + 1)) (k + 1 + 1)))), (14, .d (I (smI den (losL c) w (k + 1) c.length t))), (15, .d (I t)), (16, .d (I (mst den (losL c) w (k + 1) t i))), (86, .d (I (k + 1 + 1 : Nat))), (87, .d (I t)), (91, .d (isl w)), (92, .d (I c.length)), (93, .d (I i))]) (fun _ => [(2, ⟨24, [rgV c, I den]⟩), (3, ⟨54, prfC (k + 1 + 1) w⟩), (4, ⟨56, [I 0, I 0]⟩), (7, ⟨56, [I N.num, I (N.den : Int)]⟩)]) (fun i => i ≤ c.length) (fun i => c.length - i) 0 (Nat.zero_le _) (And.intro rfl (And.intro rfl (And.intro rfl (And.intro rfl (And.intro rfl (And.intro rfl (And.intro rfl (And.intro rfl (And.intro rfl (And.intro rfl (And.intro rfl (And.intro rfl (And.intro (congrArg (fun n : Nat => AV.d (I n)) hwl) (And.intro (rfl) trivial)))))))))))))) (And.intro rfl (And.intro rfl (And.intro rfl (And.intro rfl trivial)))) fun i hi => ?_
    by_cases hil : i < c.length
    rotate_left
    · obtain rfl : i = c.length := by omega
      have hsm := hsmI t (by omega)
      have hsm1 := hsmI (t + 1) (by omega)
      have hms := hmb c.length (Nat.le_refl _)
      have hsu : smI den (losL c) w (k + 1) c.length (t + 1) = smI den (losL c) w (k + 1) c.length t + mst den (losL c) w (k + 1) t c.length := rfl
      have hk1 : t * (K * 2520) ≤ 6 * (K * 2520) := Nat.mul_le_mul_right _ (by omega)
      have hk2 : (t + 1) * (K * 2520) ≤ 6 * (K * 2520) := Nat.mul_le_mul_right _ (by omega)
      clear hmb hmst hsmI hnb hb1 z1 z2 z3
      generalize smI den (losL c) w (k + 1) c.length t = S0 at *
      generalize mst den (losL c) w (k + 1) t c.length = M0 at *
      (repeat' (first | (with_reducible first | intro hg | refine mv (by constructor) ?_) | ((with_reducible first | refine zR ?_ ?_ | refine zW mixed ?_ ?_); exact kr) | ((with_reducible apply zK); exact rfl; exact tf) | ((with_reducible apply zCD); exact rfl) | ((with_reducible apply zCN); exact rfl) | ((with_reducible apply zC); exact rfl) | ((with_reducible refine zX ?_ ?_); exact rfl) | ((with_reducible refine zE (And.intro ?_ ?_)); exact kr) | (with_reducible refine zE ?_) | ((with_reducible apply zP); exact dp) | ((with_reducible apply zN); exact dn) | ((with_reducible apply zA); exact da) | ((with_reducible apply zS); exact ds) | ((with_reducible apply zY); exact rfl; exact rfl; exact tf) | ((with_reducible apply zG); exact rfl; exact rfl; exact tf) | ((with_reducible apply zU); exact rfl; exact rfl) | ((with_reducible apply zD); exact rfl; exact rfl) | ((with_reducible apply zB); exact rfl; exact rfl)))
      exact ⟨t + 1, htl, by omega, (And.intro rfl (And.intro rfl (And.intro rfl (And.intro rfl (And.intro rfl (And.intro rfl (And.intro (congrArg (fun n : Int => AV.d (I n)) hsu.symm) (And.intro (rfl) (And.intro (rfl) trivial))))))))), (And.intro rfl (And.intro rfl (And.intro rfl (And.intro rfl trivial))))⟩
    have hms := hmb i (by omega)
    have hms1 := hmb (i + 1) (by omega)
    have hwi := hw i hil
    have hsu : mst den (losL c) w (k + 1) t (i + 1) = bif decide (i ≤ t) then max (mst den (losL c) w (k + 1) t i) (((nmb den (losL c) (k + 1) (t - i)).natAbs : Int) * (2520 / nth w i)) else mst den (losL c) w (k + 1) t i := rfl
    clear hmb hmst hsmI hb1 z1 z2 z3
    by_cases hit : i ≤ t
    rotate_left
    · rw [decide_eq_false hit] at hsu
      have hsu : mst den (losL c) w (k + 1) t (i + 1) = mst den (losL c) w (k + 1) t i := hsu
      generalize mst den (losL c) w (k + 1) t i = M0 at *
      (repeat' (first | (with_reducible first | intro hg | refine mv (by constructor) ?_) | ((with_reducible first | refine zR ?_ ?_ | refine zW mixed ?_ ?_); exact kr) | ((with_reducible apply zK); exact rfl; exact tf) | ((with_reducible apply zCD); exact rfl) | ((with_reducible apply zCN); exact rfl) | ((with_reducible apply zC); exact rfl) | ((with_reducible refine zX ?_ ?_); exact rfl) | ((with_reducible refine zE (And.intro ?_ ?_)); exact kr) | (with_reducible refine zE ?_) | ((with_reducible apply zP); (first | exact o_indexI (xs := w) (j := i) rfl rfl (by omega) rfl | exact dp)) | ((with_reducible apply zN); exact dn) | ((with_reducible apply zA); exact da) | ((with_reducible apply zS); exact ds) | ((with_reducible apply zY); exact rfl; exact rfl; exact tf) | ((with_reducible apply zG); exact rfl; exact rfl; exact tf) | ((with_reducible apply zU); exact rfl; exact rfl) | ((with_reducible apply zD); exact rfl; exact rfl) | ((with_reducible apply zB); exact rfl; exact rfl)))
      exact ⟨i + 1, hil, by omega, (And.intro rfl (And.intro rfl (And.intro rfl (And.intro rfl (And.intro rfl (And.intro rfl (And.intro rfl (And.intro rfl (And.intro (congrArg (fun n : Int => AV.d (I n)) hsu.symm) (And.intro (rfl) (And.intro (rfl) (And.intro (rfl) (And.intro (rfl) (And.intro (rfl) trivial)))))))))))))), (And.intro rfl (And.intro rfl (And.intro rfl (And.intro rfl trivial))))⟩
    rw [decide_eq_true hit, cond_true] at hsu
    have hti : (t : Int) - i = ((t - i : Nat) : Int) := by omega
    have hnl : nth (lst (nmb den (losL c) (k + 1)) (k + 1 + 1)) (t - i) = nmb den (losL c) (k + 1) (t - i) := lst_nth _ (by omega)
    have hnn := hnb (t - i) (by omega)
    have d1 : 0 ≤ 2520 / nth w i ∧ 2520 / nth w i ≤ 2520 := ⟨Int.ediv_nonneg (by decide) (by omega), Int.ediv_le_self _ (by decide)⟩
    have ws := size_A (nmb den (losL c) (k + 1) (t - i)) ⟨by omega, by omega⟩
    have hpr : 0 ≤ ((nmb den (losL c) (k + 1) (t - i)).natAbs : Int) * (2520 / nth w i) ∧ ((nmb den (losL c) (k + 1) (t - i)).natAbs : Int) * (2520 / nth w i) ≤ (K : Int) * 2520 := ⟨Int.mul_nonneg (by omega) d1.1, Int.mul_le_mul (by omega) d1.2 d1.1 (by omega)⟩
    rw [← hnl] at ws hsu hpr
    clear hnl hnn hnb
    generalize lst (nmb den (losL c) (k + 1)) (k + 1 + 1) = X at *
    generalize mst den (losL c) w (k + 1) t i = M0 at *
    (repeat' (first | (with_reducible first | intro hg | refine mv (by constructor) ?_) | ((with_reducible first | refine zR ?_ ?_ | refine zW mixed ?_ ?_); exact kr) | ((with_reducible apply zK); exact rfl; exact tf) | ((with_reducible apply zCD); exact rfl) | ((with_reducible apply zCN); exact rfl) | ((with_reducible apply zC); exact rfl) | ((with_reducible refine zX ?_ ?_); exact rfl) | ((with_reducible refine zE (And.intro ?_ ?_)); exact kr) | (with_reducible refine zE ?_) | ((with_reducible apply zP); (first | exact o_indexI (xs := w) (j := i) rfl rfl (by omega) rfl | exact o_indexI (xs := X) (j := t - i) rfl (congrArg (fun n : Int => AV.d (I n)) hti) (by omega) rfl | exact dp | exact oc rfl (ws))) | ((with_reducible apply zN); exact dn) | ((with_reducible apply zA); exact da) | ((with_reducible apply zS); exact ds) | ((with_reducible apply zY); exact rfl; exact rfl; exact tf) | ((with_reducible apply zG); exact rfl; exact rfl; exact tf) | ((with_reducible apply zU); exact rfl; exact rfl) | ((with_reducible apply zD); exact rfl; exact rfl) | ((with_reducible apply zB); exact rfl; exact rfl)))
    exact ⟨i + 1, hil, by omega, (And.intro rfl (And.intro rfl (And.intro rfl (And.intro rfl (And.intro rfl (And.intro rfl (And.intro rfl (And.intro rfl (And.intro (congrArg (fun n : Int => AV.d (I n)) hsu.symm) (And.intro (rfl) (And.intro (rfl) (And.intro (rfl) (And.intro (rfl) (And.intro (rfl) trivial)))))))))))))), (And.intro rfl (And.intro rfl (And.intro rfl (And.intro rfl trivial))))⟩

end Go.Proofs.YtiabcffcbhlbiaaGreat
